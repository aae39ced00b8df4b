/- Package objs: endpoints, the code's. -/
import Derived.Test.YtpmobbehdpgnbaaZ23
import Derived.Test.YtpmobbehdpgnbaaZ24
import Derived.Test.YtpmobbehdpgnbaaZ16
import Derived.Test.YtpmobbehdpgnbaaZ19
import Derived.Test.YtpmobbehdpgnbaaZ14
import Derived.Test.YtpmobbehdpgnbaaZ13
/- Law 12: the memories that acts make of the plan's: in order, whatever is done; code and document make the same words. -/
namespace Go.Proofs.Ytpmobbehdpgnbaa
open Go.D
set_option linter.all false
set_option maxRecDepth 100000
set_option maxHeartbeats 4000000

theorem len_sub : ∀ {L Q : List Int}, L.Nodup → (∀ x, x ∈ L → x ∈ Q) → L.length ≤ Q.length
  | [], _, _, _ => Nat.zero_le _
  | x :: L, Q, hn, h => by
    obtain ⟨h1, h2⟩ := List.nodup_cons.1 hn
    have hx := h x List.mem_cons_self
    have h3 := len_sub (L := L) (Q := Q.erase x) h2 fun y hy => by
      have hne : y ≠ x := fun e => h1 (e ▸ hy)
      exact (List.mem_erase_of_ne hne).2 (h y (List.mem_cons_of_mem _ hy))
    have h4 := List.length_erase_of_mem hx
    have h5 := List.length_pos_of_mem hx
    simp only [List.length_cons]
    omega

/-! ### the places -/
def PL : List Int := (List.range 32).map (fun k : Nat => 2048 + 4 * (k : Int)) ++ ((List.range 8).map (fun k : Nat => 3072 + 4 * (k : Int)) ++ (List.range 4).map fun k : Nat => 3104 + 4 * (k : Int))
def PB : List Int := 32 :: 36 :: 40 :: 44 :: 1024 :: 1088 :: 1152 :: 1216 :: PL
theorem PL_PB {x : Int} (h : x ∈ PL) : x ∈ PB := by unfold PB; simp [h]
/-! ### what stays -/
theorem gV_fun {m m' : M} (e : m'.w = m.w) : m'.gV = m.gV := funext fun x => gV_w e x
theorem M.Inv.of_w {m m' : M} {P : Int → Prop} {L : List Int} (I : m.Inv P L) (e : m'.w = m.w) : m'.Inv P L := by
  refine ⟨by rw [e]; exact I.len, by rw [at_w e, fst_w e]; exact I.two, I.nd, fun x hx => by rw [fE_w e]; exact I.full x hx, by rw [gV_fun e]; exact I.ch, by rw [fst_w e]; exact I.fst, fun x hx => ?_⟩
  rw [gE_w e, gV_w e]
  exact I.out x hx
structure DI (m : M) (L : List Int) : Prop where
  inv : m.Inv (· ∈ PB) L
  sub : ∀ x, x ∈ L → x ∈ PB
  z : ∀ x, x ∈ PB → x ∉ L → m.gV x = slotZ
  dep : ∀ (i : Nat) (x : Int), L[i]? = some x → (m.gV x).depth ≤ i
  len : m.w.length = 8192
theorem DI.of_w {m m' : M} {L : List Int} (D : DI m L) (e : m'.w = m.w) : DI m' L :=
  ⟨D.inv.of_w e, D.sub, fun x h1 h2 => by rw [gV_w e]; exact D.z x h1 h2, fun i x h => by rw [gV_w e]; exact D.dep i x h, by rw [e]; exact D.len⟩
theorem DI.dep_lt {m : M} {L : List Int} (D : DI m L) {x : Int} (h : x ∈ L) : (m.gV x).depth ≠ 65535 := by
  obtain ⟨i, hi⟩ := List.getElem?_of_mem h
  have h1 := D.dep i x hi
  have h2 := (List.getElem?_eq_some_iff.1 hi).1
  have h3 := len_sub D.inv.nd D.sub
  have h4 : PB.length = 52 := by decide
  omega
theorem DI.gE {m : M} {L : List Int} (D : DI m L) {x : Int} (h : x ∈ PB) : m.gE x = 0 := (D.inv.out x h).1
theorem DI.em {m : M} {L : List Int} (D : DI m L) {x : Int} (h : x ∈ PB) : m.emB x = true ↔ x ∉ L := by
  unfold M.emB
  constructor
  · intro e hx
    exact (D.inv.gE hx).2 (by simpa using e)
  · intro hx
    rw [D.z x h hx]; rfl
theorem DI.emf {m : M} {L : List Int} (D : DI m L) {x : Int} (h : x ∈ PB) : m.emB x = false ↔ x ∈ L := by
  have := D.em h
  cases e : m.emB x with
  | true => simp only [Bool.true_eq_false, false_iff]; exact this.1 e
  | false =>
    simp only [true_iff]
    exact Decidable.not_not.1 fun h2 => by have := this.2 h2; rw [e] at this; cases this
theorem DI.n0 {m : M} {L : List Int} (D : DI m L) {x : Int} (h : x ∈ PB) : x ≠ 0 := there_ne0 (gE_there (D.gE h)).1

structure Did (m m1 r1 : M) (C : Int → Cap) : Prop where
  w : r1.w = m1.w
  L : ∃ L, DI m1 L
  cap : ∀ x, x ≠ 0 → (m1.gV x).cap = C x
theorem Did.of_w {m m1 r1 m2 r2 : M} {C : Int → Cap} (D : Did m m1 r1 C) (e : m2.w = m1.w) (f : r2.w = r1.w) : Did m m2 r2 C := by
  obtain ⟨L, hL⟩ := D.L
  exact ⟨f.trans (D.w.trans e.symm), ⟨L, hL.of_w e⟩, fun x hx => by rw [gV_w e]; exact D.cap x hx⟩
theorem DI.same {m m1 r1 : M} {L : List Int} (D : DI m L) (e : m1.w = m.w) (f : r1.w = m.w) : Did m m1 r1 fun x => (m.gV x).cap :=
  ⟨f.trans e.symm, ⟨L, D.of_w e⟩, fun x _ => by rw [gV_w e]⟩

theorem DI.mov {m r : M} {L : List Int} (D : DI m L) (hr : r.w = m.w) {f t : Int} (hf : f ∈ L) (htP : t ∈ PB) (htL : t ∉ L) :
    (m.mov f t).1 = 0 ∧ (r.rmov f t).1 = 0 ∧ (r.rmov f t).2.w = (m.mov f t).2.w ∧ m.To (m.mov f t).2 (m.movV f t) (m.movF f t) ∧ DI (m.mov f t).2 (L.map (rho f t)) ∧ ∀ x, x ≠ 0 → ((m.mov f t).2.gV x).cap = if x = f then capZ else if x = t then (m.gV f).cap else (m.gV x).cap := by
  have ht := D.gE htP
  have hz := D.z t htP htL
  obtain ⟨e1, T1⟩ := D.inv.mov_to hf ht hz
  have I2 := D.inv.of_w hr
  obtain ⟨e2, T2⟩ := I2.rmov_to hf (by rw [gE_w hr]; exact ht) (by rw [gV_w hr]; exact hz)
  have hft : f ≠ t := fun e => htL (e ▸ hf)
  have hVf : ∀ x, (m.movV f t x).cap = if x = f then capZ else if x = t then (m.gV f).cap else (m.gV x).cap := fun x => by
    unfold M.movV
    rw [jnV_cap]
    by_cases h1 : x = f
    · simp only [h1, if_true]; rfl
    · by_cases h2 : x = t
      · simp only [if_neg h1, if_pos h2]
      · simp only [if_neg h1, if_neg h2]
  have hVd : ∀ x, (m.movV f t x).depth = if x = f then 0 else if x = t then (m.gV f).depth else (m.gV x).depth := fun x => by
    unfold M.movV
    rw [jnV_depth]
    by_cases h1 : x = f
    · simp only [h1, if_true]; rfl
    · by_cases h2 : x = t
      · simp only [if_neg h1, if_pos h2]
      · simp only [if_neg h1, if_neg h2]
  have hI := D.inv.mov_inv hf ht hz T1
  refine ⟨e1, e2, ?_, T1, ⟨hI, ?_, ?_, ?_, T1.fr.len.trans D.len⟩, fun x hx => by rw [T1.V x hx]; exact hVf x⟩
  · refine (T1.det T2 hr (fun x _ => ?_) ?_ D.inv.len.2 D.inv.two).symm
    · simp only [M.movV, gV_fun hr]
    · simp only [M.movF, gV_fun hr, fst_w hr]
  · intro x hx
    obtain ⟨y, hy, rfl⟩ := List.mem_map.1 hx
    unfold rho; split
    · exact htP
    · exact D.sub y hy
  · intro x hx hxL
    have x0 := D.n0 hx
    rw [T1.V x x0]
    have hxt : x ≠ t := fun e => hxL (by rw [e]; exact List.mem_map.2 ⟨f, hf, by simp [rho]⟩)
    have hg := hI.out x hx
    have := hg.2 hxL
    rw [T1.V x x0] at this
    obtain ⟨k1, k2, k3⟩ := this
    refine Slot.ext4 ?_ k1 k2 k3
    rw [hVf]
    by_cases h1 : x = f
    · rw [if_pos h1]; rfl
    · rw [if_neg h1, if_neg hxt, D.z x hx fun h2 => hxL (List.mem_map.2 ⟨x, h2, by simp [rho, h1]⟩)]
  · intro i x hx
    rw [List.getElem?_map] at hx
    cases hL : L[i]? with
    | none => rw [hL] at hx; cases hx
    | some y =>
      rw [hL] at hx
      simp only [Option.map_some, Option.some.injEq] at hx
      have hy := List.mem_of_getElem? hL
      have d := D.dep i y hL
      have hyt : y ≠ t := fun e => htL (e ▸ hy)
      subst hx
      have r0 : rho f t y ≠ 0 := by
        unfold rho; split
        · exact D.n0 htP
        · exact fun e => D.inv.no0 (e ▸ hy)
      rw [T1.V _ r0, hVd]
      unfold rho
      by_cases h1 : y = f
      · rw [if_pos h1, if_neg (Ne.symm hft), if_pos rfl, ← h1]; exact d
      · rw [if_neg h1, if_neg h1, if_neg hyt]; exact d
theorem DI.swp {m r : M} {L : List Int} (D : DI m L) (hr : r.w = m.w) {a b : Int} (ha : a ∈ L) (hb : b ∈ L) (hne : a ≠ b) :
    (m.swp a b).1 = 0 ∧ (r.rswp a b).1 = 0 ∧ (r.rswp a b).2.w = (m.swp a b).2.w ∧ m.To (m.swp a b).2 (m.swV a b) (m.swF a b) ∧ DI (m.swp a b).2 (L.map (oth a b)) ∧ ∀ x, x ≠ 0 → ((m.swp a b).2.gV x).cap = if x = a then (m.gV b).cap else if x = b then (m.gV a).cap else (m.gV x).cap := by
  obtain ⟨e1, T1⟩ := D.inv.sw_to ha hb hne
  have I2 := D.inv.of_w hr
  obtain ⟨e2, T2⟩ := I2.rsw_to ha hb hne
  have hVf : ∀ x, (m.swV a b x).cap = if x = a then (m.gV b).cap else if x = b then (m.gV a).cap else (m.gV x).cap := fun x => by
    unfold M.swV; split
    · rfl
    · split
      · rfl
      · rfl
  have hVd : ∀ x, (m.swV a b x).depth = (m.gV (oth a b x)).depth := fun x => by
    unfold M.swV
    by_cases h1 : x = a
    · rw [if_pos h1, h1, oth_of_a]; rfl
    · by_cases h2 : x = b
      · rw [if_neg h1, if_pos h2, h2, oth_of_b hne]; rfl
      · rw [if_neg h1, if_neg h2, oth_of h1 h2]
  have hI := D.inv.sw_inv ha hb hne T1
  have om : ∀ y, y ∈ L → oth a b y ∈ L := fun y hy => by
    by_cases h1 : y = a
    · rw [h1, oth_of_a]; exact hb
    · by_cases h2 : y = b
      · rw [h2, oth_of_b hne]; exact ha
      · rw [oth_of h1 h2]; exact hy
  refine ⟨e1, e2, ?_, T1, ⟨hI, ?_, ?_, ?_, T1.fr.len.trans D.len⟩, fun x hx => by rw [T1.V x hx]; exact hVf x⟩
  · refine (T1.det T2 hr (fun x _ => ?_) ?_ D.inv.len.2 D.inv.two).symm
    · simp only [M.swV, gV_fun hr]
    · simp only [M.swF, fst_w hr]
  · intro x hx
    obtain ⟨y, hy, rfl⟩ := List.mem_map.1 hx
    exact D.sub _ (om y hy)
  · intro x hx hxL
    have x0 := D.n0 hx
    have hxL2 : x ∉ L := fun h => hxL (List.mem_map.2 ⟨oth a b x, om x h, oth_oth hne x⟩)
    have hxa : x ≠ a := fun e => hxL2 (e ▸ ha)
    have hxb : x ≠ b := fun e => hxL2 (e ▸ hb)
    have hg := (hI.out x hx).2 hxL
    rw [T1.V x x0] at hg ⊢
    obtain ⟨k1, k2, k3⟩ := hg
    refine Slot.ext4 ?_ k1 k2 k3
    rw [hVf, if_neg hxa, if_neg hxb, D.z x hx hxL2]
  · intro i x hx
    rw [List.getElem?_map] at hx
    cases hL : L[i]? with
    | none => rw [hL] at hx; cases hx
    | some y =>
      rw [hL] at hx
      simp only [Option.map_some, Option.some.injEq] at hx
      have hy := List.mem_of_getElem? hL
      have d := D.dep i y hL
      subst hx
      have r0 : oth a b y ≠ 0 := fun e => D.inv.no0 (e ▸ om y hy)
      rw [T1.V _ r0, hVd, oth_oth hne]; exact d

theorem insL_get {p a : Int} : ∀ {L : List Int} {i : Nat} {x : Int}, (insL p a L)[i]? = some x → L[i]? = some x ∨ (x = a ∧ ∃ j, i = j + 1 ∧ L[j]? = some p) ∨ ∃ j, i = j + 1 ∧ L[j]? = some x
  | [], i, x, h => by simp [insL] at h
  | y :: L, i, x, h => by
    unfold insL at h
    split at h
    · rename_i e
      match i with
      | 0 => exact .inl h
      | 1 =>
        simp only [List.getElem?_cons_succ, List.getElem?_cons_zero, Option.some.injEq] at h
        exact .inr (.inl ⟨h.symm, 0, rfl, by rw [e]; rfl⟩)
      | i + 2 =>
        simp only [List.getElem?_cons_succ] at h
        exact .inr (.inr ⟨i + 1, rfl, by simpa using h⟩)
    · match i with
      | 0 => exact .inl h
      | i + 1 =>
        simp only [List.getElem?_cons_succ] at h
        rcases insL_get h with h | ⟨h1, j, h2, h3⟩ | ⟨j, h2, h3⟩
        · exact .inl (by simpa using h)
        · exact .inr (.inl ⟨h1, j + 1, by omega, by simpa using h3⟩)
        · exact .inr (.inr ⟨j + 1, by omega, by simpa using h3⟩)
theorem insL_mem {p a x : Int} : ∀ {L : List Int}, x ∈ insL p a L → x = a ∨ x ∈ L
  | [], h => by simp [insL] at h
  | y :: L, h => by
    unfold insL at h
    split at h
    · rcases List.mem_cons.1 h with e | h
      · exact .inr (by rw [e]; exact List.mem_cons_self)
      · rcases List.mem_cons.1 h with e | h
        · exact .inl e
        · exact .inr (List.mem_cons_of_mem _ h)
    · rcases List.mem_cons.1 h with e | h
      · exact .inr (by rw [e]; exact List.mem_cons_self)
      · exact (insL_mem h).imp id fun h => List.mem_cons_of_mem _ h
theorem mem_insL {p a x : Int} : ∀ {L : List Int}, x ∈ L → x ∈ insL p a L
  | y :: L, h => by
    unfold insL
    split
    · rcases List.mem_cons.1 h with e | h
      · rw [e]; exact List.mem_cons_self
      · exact List.mem_cons_of_mem _ (List.mem_cons_of_mem _ h)
    · rcases List.mem_cons.1 h with e | h
      · rw [e]; exact List.mem_cons_self
      · exact List.mem_cons_of_mem _ (mem_insL h)
theorem a_insL {p a : Int} : ∀ {L : List Int}, p ∈ L → a ∈ insL p a L
  | y :: L, h => by
    unfold insL
    split
    · simp
    · rename_i e
      rcases List.mem_cons.1 h with h | h
      · exact absurd h.symm e
      · exact List.mem_cons_of_mem _ (a_insL h)

theorem pX_no {m : M} {a : Int} {s : Slot} (h : slotRB s = false) : m.pX a s = m := by
  unfold M.pX
  rw [if_neg fun h2 => by rw [h] at h2; cases h2.2]
theorem DI.lay_no {m : M} {L : List Int} (D : DI m L) {p a : Int} (haP : a ∈ PB) (haL : a ∉ L) {c : Cap} (hr : slotRB ⟨c, 0, 0, 0⟩ = false) : (m.layX p a c).w = m.w ∧ (m.rlayX p a c).w = m.w := by
  have e : m.fE a = 121 := by unfold M.fE; rw [if_pos ⟨D.gE haP, by rw [D.z a haP haL]; rfl⟩]
  have e2 : ¬ m.fE a = 0 := by rw [e]; decide
  unfold M.layX M.rlayX M.ins M.rins
  rw [pX_no hr, if_neg e2, if_neg e2]
  exact ⟨gX_w _ _, gX_w _ _⟩
theorem DI.lay {m r : M} {L : List Int} (D : DI m L) (hw : r.w = m.w) {p a : Int} (hp : p = 0 ∨ p ∈ L) (haP : a ∈ PB) (haL : a ∉ L) {c : Cap} (hc : c.ty ≠ 0) (hr : slotRB ⟨c, 0, 0, 0⟩ = true) :
    (r.rlayX p a c).w = (m.layX p a c).w ∧ DI (m.layX p a c) (insLL p a L) ∧ (∀ x, (m.layX p a c).gE x = m.gE x) ∧ (m.layX p a c).fst = m.insF p a ∧
    ∀ x, x ≠ 0 → (m.layX p a c).gV x = jnV (fun x => if x = a then ⟨c, p, m.nx p, if p = 0 then 0 else (m.gV p).depth + 1⟩ else m.gV x) p a (m.nx p) x := by
  have hga := D.gE haP
  have hta := (gE_there hga).1
  have a0 := D.n0 haP
  have key : ∀ m' : M, m'.w = m.w → m.To (m'.pX a ⟨c, 0, 0, 0⟩) (fun x => if x = a then ⟨c, 0, 0, 0⟩ else m.gV x) m.fst := fun m' hw' => ((M.To.refl m).of_w hw').pX hga hr
  have hI : ∀ m' : M, m'.w = m.w → (m'.pX a ⟨c, 0, 0, 0⟩).Inv (· ∈ PB) L := fun m' hw' => by
    refine D.inv.to (key m' hw') D.inv.nd (fun x hx => ?_) (chain_congr (fun x hx => ?_) D.inv.ch) D.inv.fst fun x hx hn => ?_
    · have : x ≠ a := fun e => haL (e ▸ hx)
      simp only [if_neg this]
      exact D.inv.gE hx
    · have : x ≠ a := fun e => haL (e ▸ hx)
      simp only [if_neg this, and_self]
    · by_cases e : x = a
      · simp only [e, if_true, and_self]
      · simp only [if_neg e]
        rw [D.z x hx hn]
        exact ⟨rfl, rfl, rfl⟩
  have hV : ∀ m' : M, m'.w = m.w → ∀ x, x ≠ 0 → (m'.pX a ⟨c, 0, 0, 0⟩).gV x = if x = a then ⟨c, 0, 0, 0⟩ else m.gV x := fun m' hw' x hx => (key m' hw').V x hx
  have hfE : ∀ m' : M, m'.w = m.w → (m'.pX a ⟨c, 0, 0, 0⟩).fE a = 0 := fun m' hw' => (key m' hw').full hga (by simp only [if_true]; exact hc)
  have hp2 : ∀ m' : M, m'.w = m.w → p = 0 ∨ (p ∈ L ∧ ((m'.pX a ⟨c, 0, 0, 0⟩).gV p).depth ≠ 65535) := fun m' hw' => hp.imp id fun h => by
    have h1 : p ≠ a := fun e => haL (e ▸ h)
    have h0 : p ≠ 0 := fun e => D.inv.no0 (e ▸ h)
    rw [hV m' hw' p h0, if_neg h1]
    exact ⟨h, D.dep_lt h⟩
  obtain ⟨_, T1⟩ := (hI m rfl).ins_to haP (hfE m rfl) haL (hp2 m rfl)
  obtain ⟨_, T2⟩ := (hI r hw).rins_to haP (hfE r hw) haL (hp2 r hw)
  have ewa : (r.pX a ⟨c, 0, 0, 0⟩).w = (m.pX a ⟨c, 0, 0, 0⟩).w := ((key m rfl).det (key r hw) rfl (fun _ _ => rfl) rfl D.inv.len.2 D.inv.two).symm
  have hnx : (m.pX a ⟨c, 0, 0, 0⟩).nx p = m.nx p := by
    unfold M.nx
    by_cases h0 : p = 0
    · rw [if_pos h0, if_pos h0, (key m rfl).F]
    · have h1 : p ≠ a := fun e => haL (e ▸ hp.resolve_left h0)
      rw [if_neg h0, if_neg h0, hV m rfl p h0, if_neg h1]
  have hVV : ∀ x, x ≠ 0 → (m.layX p a c).gV x = jnV (fun x => if x = a then ⟨c, p, m.nx p, if p = 0 then 0 else (m.gV p).depth + 1⟩ else m.gV x) p a (m.nx p) x := fun x hx => by
    unfold M.layX
    rw [T1.V x hx]
    have e : ∀ y, y ≠ 0 → (fun x => if x = a then (m.pX a ⟨c, 0, 0, 0⟩).insS p a else (m.pX a ⟨c, 0, 0, 0⟩).gV x) y = (fun x => if x = a then ⟨c, p, m.nx p, if p = 0 then 0 else (m.gV p).depth + 1⟩ else m.gV x) y := fun y hy => by
      by_cases e : y = a
      · simp only [e, if_true, M.insS]
        rw [hV m rfl a a0, if_pos rfl, hnx]
        by_cases h0 : p = 0
        · simp only [h0, if_true]
        · have h1 : p ≠ a := fun e => haL (e ▸ hp.resolve_left h0)
          rw [hV m rfl p h0, if_neg h1]
      · simp only [if_neg e]
        rw [hV m rfl y hy, if_neg e]
    unfold M.insV
    rw [hnx]
    unfold jnV
    by_cases c1 : x = p
    · rw [if_pos c1, if_pos c1, e p (c1 ▸ hx)]
    · rw [if_neg c1, if_neg c1]
      by_cases c2 : x = m.nx p
      · rw [if_pos c2, if_pos c2, e _ (c2 ▸ hx)]
      · rw [if_neg c2, if_neg c2, e x hx]
  have hJ := (hI m rfl).ins_inv haP (hfE m rfl) haL hp T1
  have hlen : (m.layX p a c).w.length = 8192 := by unfold M.layX; exact T1.fr.len.trans ((key m rfl).fr.len.trans D.len)
  have hd : ∀ x, x ≠ 0 → ((m.layX p a c).gV x).depth = if x = a then (if p = 0 then 0 else (m.gV p).depth + 1) else (m.gV x).depth := fun x hx => by
    rw [hVV x hx, jnV_depth]
    by_cases e : x = a
    · simp only [if_pos e]
    · simp only [if_neg e]
  have hmem : ∀ x, x ∈ insLL p a L → x = a ∨ x ∈ L := fun x hx => by
    unfold insLL at hx
    split at hx
    · exact List.mem_cons.1 hx
    · exact insL_mem hx
  have hmem2 : ∀ x, x ∈ L → x ∈ insLL p a L := fun x hx => by
    unfold insLL; split
    · exact List.mem_cons_of_mem _ hx
    · exact mem_insL hx
  have ham : a ∈ insLL p a L := by
    unfold insLL; split
    · exact List.mem_cons_self
    · rename_i h0; exact a_insL (hp.resolve_left h0)
  refine ⟨?_, ⟨hJ, fun x hx => ?_, fun x hx hn => ?_, fun i x hx => ?_, hlen⟩, fun x => ?_, ?_, hVV⟩
  · unfold M.rlayX M.layX
    refine (T1.det T2 ewa (fun x _ => ?_) ?_ (hI m rfl).len.2 (hI m rfl).two).symm
    · simp only [M.insV, M.insS, M.nx, gV_fun ewa, fst_w ewa]
    · simp only [M.insF, fst_w ewa]
  · rcases hmem x hx with e | h
    · rw [e]; exact haP
    · exact D.sub x h
  · have x0 := D.n0 hx
    have hxa : x ≠ a := fun e => hn (e ▸ ham)
    have hxL : x ∉ L := fun h => hn (hmem2 x h)
    obtain ⟨k1, k2, k3⟩ := (hJ.out x hx).2 hn
    refine Slot.ext4 ?_ k1 k2 k3
    have := hVV x x0
    unfold M.layX at this
    have h2 := congrArg Slot.cap this
    rw [jnV_cap] at h2
    simp only [if_neg hxa, D.z x hx hxL] at h2
    exact h2
  · have x0 : x ≠ 0 := by
      rcases hmem x (List.mem_of_getElem? hx) with e | h
      · rw [e]; exact a0
      · exact fun e => D.inv.no0 (e ▸ h)
    rw [hd x x0]
    unfold insLL at hx
    by_cases h0 : p = 0
    · rw [if_pos h0] at hx
      rw [if_pos h0]
      cases i with
      | zero =>
        simp only [List.getElem?_cons_zero, Option.some.injEq] at hx
        rw [if_pos hx.symm]; exact Int.le_refl _
      | succ i =>
        simp only [List.getElem?_cons_succ] at hx
        have h1 : x ≠ a := fun e => haL (e ▸ List.mem_of_getElem? hx)
        rw [if_neg h1]
        have := D.dep i x hx
        omega
    · rw [if_neg h0] at hx
      rw [if_neg h0]
      rcases insL_get hx with h | ⟨h1, j, h2, h3⟩ | ⟨j, h2, h3⟩
      · have h1 : x ≠ a := fun e => haL (e ▸ List.mem_of_getElem? h)
        rw [if_neg h1]; exact D.dep i x h
      · rw [if_pos h1]
        have := D.dep j p h3
        omega
      · have h1 : x ≠ a := fun e => haL (e ▸ List.mem_of_getElem? h3)
        rw [if_neg h1]
        have := D.dep j x h3
        omega
  · unfold M.layX
    exact (T1.E x).trans ((key m rfl).E x)
  · unfold M.layX
    rw [T1.F]
    simp only [M.insF, (key m rfl).F]
theorem DI.lay_did {m r : M} {L : List Int} (D : DI m L) (hw : r.w = m.w) {p a : Int} (hp : p = 0 ∨ p ∈ L) (haP : a ∈ PB) (haL : a ∉ L) {c : Cap} (hc : c.ty ≠ 0) (hr : slotRB ⟨c, 0, 0, 0⟩ = true) : Did m (m.layX p a c) (r.rlayX p a c) fun x => if x = a then c else (m.gV x).cap := by
  obtain ⟨h1, h2, _, _, h3⟩ := D.lay hw hp haP haL hc hr
  refine ⟨h1, ⟨_, h2⟩, fun x hx => ?_⟩
  rw [h3 x hx, jnV_cap]
  by_cases e : x = a
  · simp only [if_pos e]
  · simp only [if_neg e]

theorem ofInt_wrap (n : Int) : BitVec.ofInt 64 (IntKind.i64.wrap n) = BitVec.ofInt 64 n := by
  apply BitVec.eq_of_toNat_eq
  rw [BitVec.toNat_ofInt, BitVec.toNat_ofInt, IntKind.wrap_i64]
  congr 1
  simp only [Nat.reducePow]
  omega
theorem ofInt_toNat (v : BitVec 64) : BitVec.ofInt 64 (v.toNat : Int) = v := by
  apply BitVec.eq_of_toNat_eq
  rw [BitVec.ofInt_natCast, BitVec.toNat_ofNat]
  exact Nat.mod_eq_of_lt v.isLt
theorem bits_and_i64 (a b : Int) : bits .and .i64 a b = IntKind.i64.wrap ((BitVec.ofInt 64 a &&& BitVec.ofInt 64 b).toNat : Int) := rfl
theorem bits_andNot_i64 (a b : Int) : bits .andNot .i64 a b = IntKind.i64.wrap ((BitVec.ofInt 64 a &&& ~~~BitVec.ofInt 64 b).toNat : Int) := rfl
theorem and_less_i64 (x r : Int) : bits .andNot .i64 (bits .and .i64 x r) x = 0 := by
  rw [bits_and_i64 x r, bits_andNot_i64, ofInt_wrap, ofInt_toNat]
  have : (BitVec.ofInt 64 x &&& BitVec.ofInt 64 r &&& ~~~BitVec.ofInt 64 x) = 0#64 := by
    ext i hi
    simp only [BitVec.getElem_and, BitVec.getElem_not, BitVec.getElem_zero]
    cases (BitVec.ofInt 64 x)[i] <;> cases (BitVec.ofInt 64 r)[i] <;> rfl
  rw [this]; rfl
theorem not_less_i64 (x : Int) : bits .andNot .i64 x x = 0 := by
  rw [bits_andNot_i64]
  have : (BitVec.ofInt 64 x &&& ~~~BitVec.ofInt 64 x) = 0#64 := by
    ext i hi
    simp only [BitVec.getElem_and, BitVec.getElem_not, BitVec.getElem_zero]
    cases (BitVec.ofInt 64 x)[i] <;> rfl
  rw [this]; rfl
theorem Cap.mask_less (c : Cap) (r : Int) : Go.bits .andNot .i64 (c.mask r).rights c.rights = 0 := by
  unfold Cap.mask
  split
  · exact and_less_i64 _ _
  · exact not_less_i64 _
theorem Cap.mask_ty (c : Cap) (r : Int) : (c.mask r).ty = c.ty ∧ (c.mask r).obj = c.obj ∧ (c.mask r).badge = c.badge := by unfold Cap.mask; split <;> exact ⟨rfl, rfl, rfl⟩
theorem derC_is {c : Cap} (h : derE c = 0) : (derC c).ty = c.ty ∧ (derC c).obj = c.obj ∧ (derC c).badge = c.badge ∧ (derC c).rights = c.rights := by
  unfold derC
  rw [if_pos h]
  split <;> exact ⟨rfl, rfl, rfl, rfl⟩
theorem derE_ty {c : Cap} (h : derE c = 0) : c.ty ≠ 0 := by
  intro e
  unfold derE at h
  rw [if_pos (by rw [e]; rfl)] at h
  cases h

def capLe (c b : Cap) : Prop := b.ty = c.ty ∧ b.obj = c.obj ∧ bits .andNot .i64 c.rights b.rights = 0 ∧ (b.badge = c.badge ∨ b.badge = 0)
theorem capLe.refl (c : Cap) : capLe c c := ⟨rfl, rfl, not_less_i64 _, .inl rfl⟩
theorem fitB_eq {c d : Cap} (h1 : d.ty = c.ty) (h2 : d.obj = c.obj) (a : Int) : fitB d a = fitB c a := by unfold fitB; rw [h1, h2]
structure Fine (m : M) (C : Int → Cap) : Prop where
  le : ∀ k, k ∈ PL → (C k).ty = 0 ∨ ∃ j, j ∈ PL ∧ capLe (C k) (m.gV j).cap
  fit : (∀ k, k ∈ PL → fitB (m.gV k).cap k = true) → ∀ k, k ∈ PL → fitB (C k) k = true
theorem Fine.same (m : M) : Fine m fun x => (m.gV x).cap := ⟨fun k hk => .inr ⟨k, hk, capLe.refl _⟩, fun h => h⟩
theorem Fine.of {m : M} {C C' : Int → Cap} (F : Fine m C) (h : ∀ x, C' x = C x) : Fine m C' := by
  have : C' = C := funext h
  rw [this]; exact F
theorem emB_w {m m' : M} (e : m'.w = m.w) (x : Int) : m'.emB x = m.emB x := by simp only [M.emB, gV_fun e]
theorem enE_w {m m' : M} (e : m'.w = m.w) (f t : Int) : m'.enE f t = m.enE f t := by simp only [M.enE, emB_w e]
theorem coE_w {m m' : M} (e : m'.w = m.w) (f t : Int) : m'.coE f t = m.coE f t := by simp only [M.coE, enE_w e, gV_fun e]
theorem coC_w {m m' : M} (e : m'.w = m.w) (f t r : Int) : m'.coC f t r = m.coC f t r := by simp only [M.coC, coE_w e, gV_fun e]
theorem miE_w {m m' : M} (e : m'.w = m.w) (f t r n g b : Int) : m'.miE f t r n g b = m.miE f t r n g b := by simp only [M.miE, coE_w e, coC_w e]
theorem moE_w {m m' : M} (e : m'.w = m.w) (f t : Int) : m'.moE f t = m.moE f t := by simp only [M.moE, enE_w e, gV_fun e]
theorem roE_w {m m' : M} (e : m'.w = m.w) (t p f : Int) : m'.roE t p f = m.roE t p f := by simp only [M.roE, emB_w e, gV_fun e]
theorem coXe_w (m : M) (f t : Int) : (m.coX M.enX f t).w = m.w := coX_w m _ f t (enX_w m f t)
theorem coXr_w (m : M) (f t : Int) : (m.coX M.renX f t).w = m.w := coX_w m _ f t (renX_w m f t)

section
variable {m r : M} {L : List Int}
theorem DI.enE (D : DI m L) {f t : Int} (hf : f ∈ PL) (ht : t ∈ PL) (h : m.enE f t = 0) : f ∈ L ∧ t ∉ L := by
  unfold M.enE at h
  cases e1 : m.emB f with
  | true => rw [e1] at h; cases h
  | false =>
    cases e2 : m.emB t with
    | false => rw [e1, e2] at h; cases h
    | true => exact ⟨(D.emf (PL_PB hf)).1 e1, (D.em (PL_PB ht)).1 e2⟩
theorem coE_is {f t : Int} (h : m.coE f t = 0) : m.enE f t = 0 ∧ derE (m.gV f).cap = 0 ∧ fitB (derC (m.gV f).cap) t = true := by
  unfold M.coE at h
  split at h
  · rename_i h1
    split at h
    · rename_i h2
      split at h
      · rename_i h3; exact ⟨h1, h2, h3⟩
      · cases h
    · rename_i h2; exact absurd h h2
  · rename_i h1; exact absurd h h1
theorem coC_is {f t q : Int} (h : m.coE f t = 0) : (m.coC f t q).ty = (m.gV f).cap.ty ∧ (m.coC f t q).obj = (m.gV f).cap.obj ∧ (m.coC f t q).badge = (m.gV f).cap.badge ∧ bits .andNot .i64 (m.coC f t q).rights (m.gV f).cap.rights = 0 := by
  obtain ⟨h1, h2, h3⟩ := coE_is h
  obtain ⟨d1, d2, d3, d4⟩ := derC_is h2
  unfold M.coC
  rw [if_pos h]
  obtain ⟨k1, k2, k3⟩ := Cap.mask_ty (derC (m.gV f).cap) q
  refine ⟨k1.trans d1, k2.trans d2, k3.trans d3, ?_⟩
  rw [← d4]; exact Cap.mask_less _ _
theorem DI.child (D : DI m L) {m2 r2 : M} (h1 : m2.w = m.w) (h2 : r2.w = m.w) {f t : Int} (hf : f ∈ L) (ht : t ∈ PL) (htL : t ∉ L) {c : Cap} (hc : c.ty ≠ 0) :
    ∃ C, Did m (m2.layX f t c) (r2.rlayX f t c) C ∧ ((∀ x, C x = (m.gV x).cap) ∨ (slotRB ⟨c, 0, 0, 0⟩ = true ∧ ∀ x, C x = if x = t then c else (m.gV x).cap)) := by
  have D1 := D.of_w h1
  have D2 := D.of_w h2
  cases hr : slotRB ⟨c, 0, 0, 0⟩ with
  | false => exact ⟨_, D.same ((D1.lay_no (PL_PB ht) htL hr).1.trans h1) ((D2.lay_no (PL_PB ht) htL hr).2.trans h2), .inl fun _ => rfl⟩
  | true =>
    have := D1.lay_did (h2.trans h1.symm) (.inr hf) (PL_PB ht) htL hc hr
    refine ⟨_, ⟨this.w, this.L, this.cap⟩, .inr ⟨rfl, fun x => ?_⟩⟩
    simp only [gV_fun h1]
theorem Fine.child {C : Int → Cap} {f t : Int} {c : Cap} (hf : f ∈ PL) (hC : (∀ x, C x = (m.gV x).cap) ∨ (slotRB ⟨c, 0, 0, 0⟩ = true ∧ ∀ x, C x = if x = t then c else (m.gV x).cap)) (hl : capLe c (m.gV f).cap) (ht : fitB c t = true) : Fine m C := by
  rcases hC with h | ⟨_, h⟩
  · exact (Fine.same m).of h
  · refine ⟨fun k hk => ?_, fun hfit k hk => ?_⟩
    · rw [h k]
      by_cases e : k = t
      · rw [if_pos e]; exact .inr ⟨f, hf, hl⟩
      · rw [if_neg e]; exact .inr ⟨k, hk, capLe.refl _⟩
    · rw [h k]
      by_cases e : k = t
      · rw [if_pos e, e]; exact ht
      · rw [if_neg e]; exact hfit k hk
theorem miC_is (c : Cap) (n g b : Int) (h : c.miE n g b = 0) : (c.miC n g b).ty = c.ty ∧ (c.miC n g b).obj = c.obj ∧ (c.miC n g b).rights = c.rights ∧ (c.badge = (c.miC n g b).badge ∨ c.badge = 0) := by
  unfold Cap.miE at h
  unfold Cap.miC
  split
  · rename_i h1
    rw [if_pos h1] at h
    refine ⟨rfl, rfl, rfl, .inr ?_⟩
    split at h
    · rename_i h2; simpa using h2
    · cases h
  · split
    · exact ⟨rfl, rfl, rfl, .inl rfl⟩
    · exact ⟨rfl, rfl, rfl, .inl rfl⟩
theorem DI.mi (D : DI m L) (hw : r.w = m.w) {f t : Int} (hf : f ∈ PL) (ht : t ∈ PL) (q n g b : Int) : ∃ C, Did m (m.miX M.enX M.layX f t q n g b) (r.miX M.renX M.rlayX f t q n g b) C ∧ Fine m C := by
  unfold M.miX
  rw [miE_w hw, coC_w hw]
  by_cases h0 : m.miE f t q n g b = 0
  · rw [if_pos h0, if_pos h0]
    have h : m.coE f t = 0 := by
      unfold M.miE at h0
      split at h0
      · assumption
      · exact h0
    have hm : (m.coC f t q).miE n g b = 0 := by
      unfold M.miE at h0
      rwa [if_pos h] at h0
    obtain ⟨h1, h2, h3⟩ := coE_is h
    obtain ⟨k1, k2, k3, k4⟩ := coC_is (q := q) h
    obtain ⟨j1, j2, j3, j4⟩ := miC_is _ n g b hm
    obtain ⟨hfL, htL⟩ := D.enE hf ht h1
    obtain ⟨d1, d2, _, _⟩ := derC_is h2
    obtain ⟨C, hD, hC⟩ := D.child (coXe_w m f t) ((coXr_w r f t).trans hw) hfL ht htL (c := (m.coC f t q).miC n g b) (by rw [j1, k1]; exact derE_ty h2)
    refine ⟨C, hD, Fine.child hf hC ⟨(j1.trans k1).symm, (j2.trans k2).symm, by rw [j3]; exact k4, by rw [← k3]; exact j4⟩ ?_⟩
    rw [fitB_eq j1 j2, fitB_eq k1 k2, ← fitB_eq d1 d2]; exact h3
  · rw [if_neg h0, if_neg h0]
    exact ⟨_, D.same (coXe_w m f t) ((coXr_w r f t).trans hw), Fine.same m⟩
theorem moE_is {f t : Int} (h : m.moE f t = 0) : m.enE f t = 0 ∧ fitB (m.gV f).cap t = true := by
  unfold M.moE at h
  split at h
  · rename_i h1
    split at h
    · rename_i h2; exact ⟨h1, h2⟩
    · cases h
  · rename_i h1; exact absurd h h1
theorem Fine.mov {C : Int → Cap} {f t : Int} (hf : f ∈ PL) (hC : ∀ x, C x = if x = f then capZ else if x = t then (m.gV f).cap else (m.gV x).cap) (h : fitB (m.gV f).cap t = true) : Fine m C := by
  refine ⟨fun k hk => ?_, fun hfit k hk => ?_⟩
  · rw [hC k]
    split
    · exact .inl rfl
    · split
      · exact .inr ⟨f, hf, capLe.refl _⟩
      · exact .inr ⟨k, hk, capLe.refl _⟩
  · rw [hC k]
    split
    · rfl
    · split
      · rename_i e; rw [e]; exact h
      · exact hfit k hk
theorem DI.mv (D : DI m L) (hw : r.w = m.w) {f t : Int} (hf : f ∈ PL) (ht : t ∈ PL) : ∃ C, Did m (m.mvX M.enX M.mov f t) (r.mvX M.renX M.rmov f t) C ∧ Fine m C := by
  unfold M.mvX
  rw [moE_w hw]
  by_cases h : m.moE f t = 0
  · rw [if_pos h, if_pos h]
    obtain ⟨h1, h2⟩ := moE_is h
    obtain ⟨hfL, htL⟩ := D.enE hf ht h1
    obtain ⟨_, _, e1, _, e2, e3⟩ := (D.of_w (coXe_w m f t)).mov (((coXr_w r f t).trans hw).trans (coXe_w m f t).symm) hfL (PL_PB ht) htL
    refine ⟨_, ⟨e1, ⟨_, e2⟩, e3⟩, Fine.mov (f := f) (t := t) hf (fun x => ?_) h2⟩
    simp only [gV_fun (coXe_w m f t)]
  · rw [if_neg h, if_neg h]
    exact ⟨_, D.same (coXe_w m f t) ((coXr_w r f t).trans hw), Fine.same m⟩
theorem roE_is {t p f : Int} (h : m.roE t p f = 0) : ¬ (p = t ∨ p = f) ∧ m.emB p = false ∧ m.emB f = false ∧ (t = f ∨ m.emB t = true) ∧ fitB (m.gV p).cap t = true ∧ fitB (m.gV f).cap p = true := by
  unfold M.roE at h
  split at h
  · cases h
  · rename_i h1
    split at h
    · cases h
    · rename_i h2
      split at h
      · cases h
      · rename_i h3
        split at h
        · rename_i h4
          have h4' : fitB (m.gV p).cap t = true ∧ fitB (m.gV f).cap p = true := by simpa using h4
          refine ⟨h1, ?_, ?_, ?_, h4'.1, h4'.2⟩
          · cases e : m.emB p
            · rfl
            · rw [e] at h2; exact absurd rfl h2
          · cases e : m.emB f
            · rfl
            · rw [e, Bool.or_true] at h2; exact absurd rfl h2
          · by_cases e : t = f
            · exact .inl e
            · right
              cases e2 : m.emB t
              · exact absurd ⟨e, e2⟩ h3
              · rfl
        · cases h
theorem DI.roA (D : DI m L) (hw : r.w = m.w) {t p f : Int} (ht : t ∈ PL) (hp : p ∈ PL) (hf : f ∈ PL) (h : m.roE t p f = 0) : ∃ C, Did m (m.roA M.mov M.swp t p f) (r.roA M.rmov M.rswp t p f) C ∧ Fine m C := by
  obtain ⟨h1, h2, h3, h4, h5, h6⟩ := roE_is h
  have hpL := (D.emf (PL_PB hp)).1 h2
  have hfL := (D.emf (PL_PB hf)).1 h3
  have hpt : p ≠ t := fun e => h1 (.inl e)
  have hpf : p ≠ f := fun e => h1 (.inr e)
  unfold M.roA
  by_cases e : t = f
  · rw [if_pos e, if_pos e]
    obtain ⟨_, _, e1, _, e2, e3⟩ := D.swp hw hpL hfL hpf
    refine ⟨_, ⟨e1, ⟨_, e2⟩, e3⟩, fun k hk => ?_, fun hfit k hk => ?_⟩
    · split
      · exact .inr ⟨f, hf, capLe.refl _⟩
      · split
        · exact .inr ⟨p, hp, capLe.refl _⟩
        · exact .inr ⟨k, hk, capLe.refl _⟩
    · split
      · rename_i e; rw [e]; exact h6
      · split
        · rename_i e2; rw [e2, ← e]; exact h5
        · exact hfit k hk
  · rw [if_neg e, if_neg e]
    have htL := (D.em (PL_PB ht)).1 (h4.resolve_left e)
    obtain ⟨_, _, e1, _, e2, e3⟩ := D.mov hw hpL (PL_PB ht) htL
    have hf2 : f ∈ L.map (rho p t) := List.mem_map.2 ⟨f, hfL, by simp [rho, Ne.symm hpf]⟩
    have hp2 : p ∉ L.map (rho p t) := fun hx => by
      obtain ⟨y, hy, e⟩ := List.mem_map.1 hx
      unfold rho at e
      split at e
      · exact hpt e.symm
      · rename_i h; exact h e
    obtain ⟨_, _, g1, _, g2, g3⟩ := e2.mov e1 hf2 (PL_PB hp) hp2
    have cf : ((m.mov p t).2.gV f).cap = (m.gV f).cap := by
      rw [e3 f (D.n0 (PL_PB hf)), if_neg (Ne.symm hpf), if_neg (Ne.symm e)]
    refine ⟨_, ⟨g1, ⟨_, g2⟩, g3⟩, fun k hk => ?_, fun hfit k hk => ?_⟩
    · split
      · exact .inl rfl
      · split
        · rw [cf]; exact .inr ⟨f, hf, capLe.refl _⟩
        · rw [e3 k (D.n0 (PL_PB hk))]
          split
          · exact .inl rfl
          · split
            · exact .inr ⟨p, hp, capLe.refl _⟩
            · exact .inr ⟨k, hk, capLe.refl _⟩
    · split
      · rfl
      · split
        · rename_i e2; rw [cf, e2]; exact h6
        · rw [e3 k (D.n0 (PL_PB hk))]
          split
          · rfl
          · split
            · rename_i e2; rw [e2]; exact h5
            · exact hfit k hk
end

section
variable {m r : M} {L : List Int}
theorem roX_is (m : M) (t p f : Int) : (m.roE t p f = 0 → ∃ s : M, s.w = m.w ∧ m.roX t p f = s.roA M.mov M.swp t p f) ∧ (m.roE t p f ≠ 0 → (m.roX t p f).w = m.w) := by
  constructor
  · intro h
    obtain ⟨h1, h2, h3, h4, h5, h6⟩ := roE_is h
    unfold M.roX M.roR
    rw [if_neg h1, if_neg (by rw [h2]; decide), if_neg (by rw [h3]; decide), if_pos h5, if_pos h6, if_pos h5, if_pos h6]
    by_cases e : t = f
    · rw [if_pos e]
      exact ⟨_, by simp only [gX_w], rfl⟩
    · rw [if_neg e, if_pos (h4.resolve_left e)]
      exact ⟨_, by simp only [gX_w], rfl⟩
  · intro h
    unfold M.roX
    by_cases h1 : p = t ∨ p = f
    · rw [if_pos h1]
    rw [if_neg h1]
    cases h2 : m.emB p
    case true => rw [if_pos rfl]; exact gX_w _ _
    rw [if_neg (by decide)]
    cases h3 : m.emB f
    case true => rw [if_pos rfl]; simp only [gX_w]
    rw [if_neg (by decide)]
    have key : ∀ s : M, s.w = m.w → (t = f ∨ m.emB t = true) → (m.roR s t p f).w = m.w := fun s hs ht => by
      unfold M.roR
      split
      · rename_i h5
        split
        · rename_i h6
          refine absurd ?_ h
          unfold M.roE
          rw [if_neg h1, h2, h3, if_neg (by decide), if_neg, h5, h6, if_pos (by decide)]
          rintro ⟨k1, k2⟩
          rcases ht with k | k
          · exact k1 k
          · rw [k] at k2; cases k2
        · simp only [gX_w]; exact hs
      · simp only [gX_w]; exact hs
    by_cases e : t = f
    · rw [if_pos e]
      exact key _ (by simp only [gX_w]) (.inl e)
    · rw [if_neg e]
      cases h4 : m.emB t
      · rw [if_neg (by decide)]; simp only [gX_w]
      · rw [if_pos rfl]; exact key _ (by simp only [gX_w]) (.inr h4)
theorem rroX_is (m : M) (t p f : Int) : (m.roE t p f = 0 → ∃ s : M, s.w = m.w ∧ m.rroX t p f = s.roA M.rmov M.rswp t p f) ∧ (m.roE t p f ≠ 0 → (m.rroX t p f).w = m.w) := by
  constructor
  · intro h
    obtain ⟨h1, h2, h3, h4, h5, h6⟩ := roE_is h
    unfold M.rroX
    rw [if_neg h1, h2, h3, if_neg (by decide), if_neg, h5, h6, if_pos (by decide)]
    · exact ⟨_, by simp only [gX_w], rfl⟩
    · rintro ⟨k1, k2⟩
      rcases h4 with k | k
      · exact k1 k
      · rw [k] at k2; cases k2
  · intro h
    unfold M.rroX
    unfold M.roE at h
    by_cases h1 : p = t ∨ p = f
    · rw [if_pos h1]
    rw [if_neg h1]
    rw [if_neg h1] at h
    split
    · simp only [gX_w]
    · rename_i h2
      rw [if_neg h2] at h
      split
      · simp only [gX_w]
      · rename_i h3
        rw [if_neg h3] at h
        split
        · rename_i h4
          rw [if_pos h4] at h
          exact absurd rfl h
        · simp only [gX_w]
theorem DI.ro (D : DI m L) (hw : r.w = m.w) {t p f : Int} (ht : t ∈ PL) (hp : p ∈ PL) (hf : f ∈ PL) : ∃ C, Did m (m.roX t p f) (r.rroX t p f) C ∧ Fine m C := by
  by_cases h : m.roE t p f = 0
  · obtain ⟨s, hs, e⟩ := (roX_is m t p f).1 h
    obtain ⟨s', hs', e'⟩ := (rroX_is r t p f).1 (by rw [roE_w hw]; exact h)
    rw [e, e']
    obtain ⟨C, h1, h2⟩ := (D.of_w hs).roA (r := s') (hs'.trans (hw.trans hs.symm)) ht hp hf (by rw [roE_w hs]; exact h)
    refine ⟨C, ⟨h1.w, h1.L, h1.cap⟩, ?_⟩
    refine ⟨fun k hk => ?_, fun hfit => h2.fit ?_⟩
    · have := h2.le k hk
      rw [gV_fun hs] at this; exact this
    · rw [gV_fun hs]; exact hfit
  · exact ⟨_, D.same ((roX_is m t p f).2 h) (((rroX_is r t p f).2 (by rw [roE_w hw]; exact h)).trans hw), Fine.same m⟩
def i64b (n : Int) : Prop := -9223372036854775808 ≤ n ∧ n < 9223372036854775808
def Act.u (x : Act) : Prop := i64b x.a ∧ i64b x.b ∧ i64b x.c
end
end Go.Proofs.Ytpmobbehdpgnbaa

/- Package objs: fields of a word. -/
namespace Go.Proofs.Ytpmobbehdpgnbaa
open Go.D
set_option linter.all false
set_option maxRecDepth 100000
set_option maxHeartbeats 8000000

structure Fi where
  b : Int
  n : Int
def Fi.c (f : Fi) : List S := [.i .i64 f.b, .i .i64 f.n]
theorem Fi.c_len (f : Fi) : f.c.length = 2 := rfl
instance : Cells Fi.c := ⟨⟨2, Fi.c_len⟩, fun x y e => by
  obtain ⟨a, b⟩ := x
  obtain ⟨c, d⟩ := y
  simp only [Fi.c, List.cons.injEq, S.i.injEq, true_and, and_true] at e
  rw [e.1, e.2]⟩
def Fi.z : Fi := ⟨0, 0⟩
section
variable (L : List Fd)
end
end Go.Proofs.Ytpmobbehdpgnbaa

/- Package objs: a word's fields; small functions. -/
namespace Go.Proofs.Ytpmobbehdpgnbaa
open Go.D
open Nat (reduceAdd reducePow reduceMul reduceSub reduceLeDiff reduceLT reduceEqDiff)
open Int (reduceNeg reduceLE reduceEq reduceNe reduceToNat)
open Go.D renaming istep → zy, pickR → zx, bin1R → zw, un1R → zv, eqS → zu, eq1 → zq, cmpS → zp, cmp1 → zj, isNil → zk, shows → zg, result → zZ, q_cond_t → zV, q_cond_f → zU
open List renaming set → zY, replicate → zX
open Option renaming map → zW
open Nat renaming reduceAdd → zQ, reducePow → yz, reduceMul → yy, reduceSub → yx, reduceLeDiff → yw, reduceLT → yv, reduceEqDiff → yu
open Int renaming reduceNeg → yq, reduceLE → yp, reduceEq → yj, reduceNe → yk, reduceToNat → yg, reducePow → yZ, reduceLT → yY, reduceAdd → yX, reduceSub → yW, reduceMul → yV, reduceBEq → yU, reduceBNe → yQ
set_option linter.all false
set_option maxRecDepth 100000
set_option maxHeartbeats 8000000

def V.fit (n m : Nat) (v : V) : V := cond (v.val n m) v (.s .u)
def ic (l : List Int) : List S := l.map (S.i .i64)
section
variable (l : List Int)
end
def in3 (n a b : Int) : Bool := decide (a ≤ n) && decide (n ≤ b)
def orinG : List V → List Blk → Res
  | [.s (.i .i64 n), .s (.i .i64 a), .s (.i .i64 b)], h => .ok (.s (.b (in3 n a b))) [] h
  | _, _ => .bad
theorem orin_snd : Snd Try.prog 133 (FSpec.of orinG) := snd_run (noT_snd _) mixed Try.func133 dc133 100 fun args h K hc hS => by
  unfold orinG at hS
  split at hS
  · simp only [spec_ok, in3] at hS
    simp (config := {maxSteps := 9999999}) only [EV0, zy, zx, zw, zv, zu, zq, zp, zj, zk, leT, zg, rvC, zZ, zY, zX, zW, ↓zV, ↓zU, reduceCtorEq, zQ, yz, yZ, yy, yx, yw, yv, yu, yq, yY, yp, yj, yk, yX, yW, yV, yg, yU, yQ, df133]
    exact hS
  · exact hS.elim
theorem in3_iff {n a b : Int} : in3 n a b = true ↔ a ≤ n ∧ n ≤ b := by simp [in3]

def otB (m : M) (a n : Int) : Bool := decide (1024 ≤ a ∧ a % n = 0 ∧ a + n ≤ m.w.length)
theorem otB_iff {m : M} {a n : Int} : otB m a n = true ↔ 1024 ≤ a ∧ a % n = 0 ∧ a + n ≤ m.w.length := by simp [otB]
def otM (b : Nat) (m : M) (st : M → List Blk) : List V → Res
  | [.s (.i .i64 a), .s (.i .i64 n)] => .ob (0 < n ∧ n ≤ 64) (.ok (.s (.b (otB m a n))) [] (st m))
  | _ => .bad
noncomputable def otG := memF otM
noncomputable def To2 : Tab := addT 70 wordsG (addT 103 thereG (noT))
theorem To2_snd : To2.Snd Try.prog := addT_snd ok70 mwords_snd (addT_snd ok103 rthere_snd ((noT_snd _)))
theorem rot_snd : Snd Try.prog 128 (FSpec.of otG) := snd_run To2_snd mixed Try.func128 dc128 100 fun args h K hc hS => by
  obtain ⟨a, b, m, rest, rfl, H, hS1⟩ := memF_spec hS
  clear hS
  have hS := hS1
  clear hS1
  unfold otM at hS
  split at hS
  · rename_i a n
    obtain ⟨hn, hS⟩ := hS
    simp only [spec_ok, setM_self H] at hS
    have hl := m.l
    have hn0 : n ≠ 0 := by omega
    cases hh : m.has a n with
    | false =>
      have hh2 := M.has_not hh
      have : otB m a n = false := by simp only [otB, decide_eq_false_iff_not]; omega
      rw [this] at hS
      simp (config := {maxSteps := 9999999}) only [EV0, zy, zx, zw, zv, zu, zq, zp, zj, zk, leT, zg, rvC, zZ, zY, zX, zW, ↓zV, ↓zU, reduceCtorEq, zQ, yz, yZ, yy, yx, yw, yv, yu, yq, yY, yp, yj, yk, yX, yW, yV, yg, yU, yQ, df128, To2, thereG, memF_eq H, thereM, setM_self H, hh]
      exact hS
    | true =>
      have hh2 := M.has_iff.1 hh
      by_cases c1 : 1024 ≤ a
      · have ht : a.tmod n = a % n := Int.tmod_eq_emod_of_nonneg (by omega)
        by_cases c2 : a % n = 0
        · rw [otB_iff.2 ⟨c1, c2, by omega⟩] at hS
          simp (config := {maxSteps := 9999999}) only [EV0, zy, zx, zw, zv, zu, zq, zp, zj, zk, leT, zg, rvC, zZ, zY, zX, zW, ↓zV, ↓zU, reduceCtorEq, zQ, yz, yZ, yy, yx, yw, yv, yu, yq, yY, yp, yj, yk, yX, yW, yV, yg, yU, yQ, df128, To2, thereG, memF_eq H, thereM, setM_self H, hh, c1, hn0, ht, c2]
          exact hS
        · have : otB m a n = false := by simp only [otB, decide_eq_false_iff_not]; omega
          rw [this] at hS
          have c2' : (a % n == 0) = false := by simpa using c2
          simp (config := {maxSteps := 9999999}) only [EV0, zy, zx, zw, zv, zu, zq, zp, zj, zk, leT, zg, rvC, zZ, zY, zX, zW, ↓zV, ↓zU, reduceCtorEq, zQ, yz, yZ, yy, yx, yw, yv, yu, yq, yY, yp, yj, yk, yX, yW, yV, yg, yU, yQ, df128, To2, thereG, memF_eq H, thereM, setM_self H, hh, c1, hn0, ht, c2']
          exact hS
      · have : otB m a n = false := by simp only [otB, decide_eq_false_iff_not]; omega
        rw [this] at hS
        simp (config := {maxSteps := 9999999}) only [EV0, zy, zx, zw, zv, zu, zq, zp, zj, zk, leT, zg, rvC, zZ, zY, zX, zW, ↓zV, ↓zU, reduceCtorEq, zQ, yz, yZ, yy, yx, yw, yv, yu, yq, yY, yp, yj, yk, yX, yW, yV, yg, yU, yQ, df128, To2, thereG, memF_eq H, thereM, setM_self H, hh, c1]
        exact hS
  · exact hS.elim
end Go.Proofs.Ytpmobbehdpgnbaa

/- Package objs: endpoints, in code and document. -/
namespace Go.Proofs.Ytpmobbehdpgnbaa
open Go.D
set_option linter.all false
set_option maxRecDepth 100000
set_option maxHeartbeats 8000000

structure Qu where
  s : Int
  h : Int
  t : Int
def Qu.cl (q : Qu) : List S := [.i .i64 q.s, .i .i64 q.h, .i .i64 q.t]
def Qu.B (q : Qu) : Bool := cond (q.s == 0) (q.h == 0 && q.t == 0) (in3 q.s 1 2 && (in3 q.h 1 65535 && in3 q.t 1 65535))
def Qu.C (q : Qu) : Bool := cond (q.s == 0) (q.h == 0 && q.t == 0) (decide (q.s ≤ 2) && (decide (0 < q.h) && decide (0 < q.t)))
def Qu.w (q : Qu) : Int := q.s + 4 * q.h + 262144 * q.t
noncomputable def To3 : Tab := addT 133 orinG (noT)
theorem To3_snd : To3.Snd Try.prog := addT_snd ok133 orin_snd ((noT_snd _))
/-! ### Queue, SetQueue -/
def sml (n : Int) : Prop := n < 9223372036854775808
def Qu.up (q : Qu) : Prop := sml q.s ∧ sml q.h ∧ sml q.t

/-! ### SetQueue -/
end Go.Proofs.Ytpmobbehdpgnbaa

