/- A part of the proof of the claim that the last text of this folder states. -/
import Derived.Test.YtebgbhgehnpahaaGreatDoorL15
namespace Go.E
set_option linter.all false
structure allN {α : Type} (Q : D8 → α → Prop) (x : N8 α) : Prop where
  h0 : Q .a x.x0
  h1 : Q .b x.x1
  h2 : Q .c x.x2
  h3 : Q .d x.x3
  h4 : Q .e x.x4
  h5 : Q .f x.x5
  h6 : Q .g x.x6
  h7 : Q .h x.x7
theorem allN.at {α : Type} {Q : D8 → α → Prop} {x : N8 α} (h : allN Q x) (i : D8) : Q i (x.g i) := by
  cases i with
  | a => exact h.h0
  | b => exact h.h1
  | c => exact h.h2
  | d => exact h.h3
  | e => exact h.h4
  | f => exact h.h5
  | g => exact h.h6
  | h => exact h.h7
theorem allN.e8 {α : Type} {Q : D8 → α → Prop} {x : α} (h : ∀ i, Q i x) : allN Q (e8 x) := ⟨h _, h _, h _, h _, h _, h _, h _, h _⟩
structure allT {α : Type} (Q : Pth → α → Prop) (x : Tr α) : Prop where
  s : allN (fun i => allN fun j => Q (.s i j)) x.s
  t : allN (fun i => allN fun j => allN fun k => Q (.t i j k)) x.t
  o : x.o = []
theorem allT_gt {α : Type} {d : α} {t : Tr α} {Q : Pth → α → Prop} (h : allT Q t) (hd : ∀ p, Q p d) (p : Pth) : Q p (gt d p t) := by
  cases p with
  | s i j => exact (h.s.at i).at j
  | t i j k => exact ((h.t.at i).at j).at k
  | o n => show Q _ (lkF d n t.o); rw [h.o]; exact hd _
theorem gtF_eq (p : Pth) (t : Tr FJ) : gtF p t = gt fdef p t := rfl
def FOk (Y : Lay) (P : Program) (n : Nat) (F : FJ) : Prop := ∃ (fn : Func) (c : Code), P.funcs[n]? = some fn ∧ (fn.name == "runtime.NumGoroutine") = false ∧ fn.body = some c ∧ compC Y P fn.ntmps c = some F.body ∧ compR P fn.results.toList = some F.res
def bodyC (Y : Lay) (P : Program) (fn : Func) : Option DJ := match fn.body with
  | some c => compC Y P fn.ntmps c
  | none => none
theorem fok {Y : Lay} {P : Program} {n : Nat} {F : FJ} (fn : Func) (h1 : P.funcs[n]? = some fn) (h2 : (fn.name == "runtime.NumGoroutine") = false) (h3 : bodyC Y P fn = some F.body) (h4 : compR P fn.results.toList = some F.res) : FOk Y P n F := by
  unfold bodyC at h3
  cases hb : fn.body with
  | none => rw [hb] at h3; cases h3
  | some c => rw [hb] at h3; exact ⟨fn, c, h1, h2, hb, h3, h4⟩
theorem prog_ok {Y : Lay} {P : Program} {t : Tr FJ} (h : allT (fun p F => F = fdef ∨ FOk Y P p.n F) t) : ProgOk Y P t := fun f => by
  rw [gtF_eq]
  exact allT_gt h (fun p => .inl rfl) f
abbrev ML := List (List V × V)
noncomputable def gtM (p : Pth) : Tr ML → ML := Pth.rec (motive := fun _ => Tr ML → ML) (fun i j t => N8.g j (N8.g i t.s)) (fun i j k t => N8.g k (N8.g j (N8.g i t.t))) (fun n t => lkF [] n t.o) p
theorem gtM_eq (p : Pth) (t : Tr ML) : gtM p t = gt [] p t := rfl
noncomputable def pmL (args : List V) (h : Hp) (l : ML) : Ans := List.rec none (fun x _ ih => Prod.rec (fun A v => Bool.rec ih (some (v, h)) (vsEq A args)) x) l
noncomputable def pmC (tbl : Tr ML) : Cal := fun s args h =>
  S.rec (fun _ => none) (fun _ _ => none) (fun _ _ => none) none (fun _ _ _ _ => none) none (fun _ _ => none) (fun f cs => List.rec (pmL args h (gtM f tbl)) (fun _ _ _ => none) cs) (fun _ _ _ _ => none) none (fun _ => none) (fun _ => none) none (fun _ => none) none s
def hD : Hp := ⟨.e .dd, .s .a .b, 1000000000, 0, 0, [], false⟩
def noR : Pth → Bool := fun _ => false
noncomputable def valB (r : Ans) (v : V) : Bool := Option.rec false (fun q => Prod.rec (fun v' _ => vEq v v') q) r
theorem valB_out {r : Ans} {v : V} (h : valB r v = true) : ∃ h', r = some (v, h') := by
  cases r with
  | none => cases h
  | some q =>
    obtain ⟨v', h'⟩ := q
    rw [vEq_eq (show vEq v v' = true from h)]
    exact ⟨h', rfl⟩
noncomputable def pmB (cal : Cal) (f : Pth) (x : List V × V) : Bool := Prod.rec (fun A v => and (A.all (V.rf noR)) (and (v.rf noR) (valB (cal (.fn f []) A hD) v))) x
theorem pmL_some {args : List V} {h : Hp} : ∀ {l : ML} {r : RES}, pmL args h l = some r → ∃ v, (args, v) ∈ l ∧ r = (v, h)
  | [], r, hr => by cases hr
  | (A, v) :: l, r, hr => by
    have hr : (Bool.rec (pmL args h l) (some (v, h)) (vsEq A args) : Ans) = some r := hr
    cases hb : vsEq A args with
    | true =>
      rw [hb] at hr
      rw [vsEq_eq hb]
      cases hr
      exact ⟨v, List.mem_cons_self, rfl⟩
    | false =>
      rw [hb] at hr
      obtain ⟨v', h1, h2⟩ := pmL_some (l := l) hr
      exact ⟨v', List.mem_cons_of_mem _ h1, h2⟩
section
variable {Y : Lay} {P : Program} {κ : KP} {cal : Cal}
theorem hD_at (p : Pth) : hD.at p = .dd := gt_e _ p
theorem pmC_ok (hY : ∀ g p, Y.g = some (g, p) → p = .z) (HC : CalOk Y P κ cal) {tbl : Tr ML} (h : allT (fun f l => l.all (pmB cal f) = true) tbl) : CalOk Y P κ (pmC tbl) := fun s args h0 r h1 e w xs hκ hR hG hs hf hx => by
  cases s <;> first | (cases h1; done) | skip
  rename_i f cs
  cases cs with
  | cons _ _ => cases h1
  | nil =>
    have h1 : pmL args h0 (gtM f tbl) = some r := h1
    rw [gtM_eq] at h1
    obtain ⟨v, h2, rfl⟩ := pmL_some h1
    have hall := allT_gt (d := []) h (fun _ => rfl) f
    have h3 : pmB cal f (args, v) = true := List.all_eq_true.1 hall _ h2
    obtain ⟨c1, c2⟩ := and_t (show and (args.all (V.rf noR)) (and (v.rf noR) (valB (cal (.fn f []) args hD) v)) = true from h3)
    obtain ⟨c2, c3⟩ := and_t c2
    obtain ⟨h4, hr⟩ := valB_out c3
    have hR0 : Rel e hD w := by
      exact ⟨fun r _ => (by rw [hD_at]; trivial), fun r r' _ _ _ hw => (by rw [hD_at] at hw; cases hw), fun r _ => (by rw [hD_at]; rfl), fun r _ => (by rw [hD_at]; rfl)⟩
    have hG0 : Gl Y e (Pth.ok hD.n.n) := fun g p hg => by
      refine ⟨?_, (hG g p hg).2⟩
      rw [hY g p hg]; rfl
    have hC := HC _ _ _ _ hr e w xs hκ hR0 hG0 hs (by
      simp only [List.all_eq_true] at c1 ⊢
      exact fun x hx => V.rf_mono (fun p hp => by cases hp) (c1 x hx)) hx
    refine hC.mono fun x w' ⟨e', i1, i2, i3, i4⟩ => ?_
    have hk : ∀ b, b < w.heap.size → w'.heap[b]? = w.heap[b]? := fun b hb => i1.keep b hb fun r _ hw => (by rw [hD_at] at hw; cases hw)
    have S : Step e h0 w e h0 w' := ⟨⟨fun r hr => (hR.ok r hr).move (Agr.refl h0.n.n e) hr (hR.val r hr) i1.size fun hd => hk _ ((hR.ok r hr).lt hd), hR.sep, hR.val, hR.esc⟩, rfl, rfl, Agr.refl _ _, Nat.le_refl _, i1.os, i1.tape, i1.output, i1.size, fun b hb _ => hk b hb, fun r hr hw => .inl ⟨r, hr, hw, rfl⟩, fun r hr hw => .inl ⟨r, hr, hw, rfl⟩⟩
    have AF : AgrF noR e' e := ⟨fun r hr => (by cases hr), fun r hr => (by cases hr), i1.agr.ρ.symm, i1.agr.β.symm⟩
    exact ⟨e, S, rfl, AF.isu c2 i3, V.rf_mono (fun p hp => by cases hp) c2⟩
end
def heap0 (tab : List S) : Hp := ⟨st .dd .z (.ro tab) (.e .dd), .s .a .b, 1000000000, 0, 0, [], false⟩
def env0 (Y : Lay) (P : Program) (g : Nat) (ζ : (Nat → Int) × Nat) : Env := { σ := fun _ => (g, 0), δ := fun _ => 0, ρ := ζ.1, β := ζ.2, κ := kapE Y P }
section
variable {Y : Lay} {P : Program} {ζ : (Nat → Int) × Nat} {prog : Tr FJ} {nat : Cal}
theorem heap0_at {tab : List S} (r : Pth) (hr : r.n < (heap0 tab).n.n) : r = .z ∧ (heap0 tab).at r = .ro tab := by
  have : r.n < 1 := hr
  have h0 : r.n = Pth.z.n := by show r.n = 0; omega
  have := Pth.inj h0
  subst this
  exact ⟨rfl, rfl⟩
theorem rel0 {tab : List S} {g : Nat} {W : World} (hlt : g < W.heap.size) (hc : ∀ (i : Nat) s, tab[i]? = some s → W.cell? ⟨g, i, none⟩ = some (s.tr (env0 Y P g ζ))) (hf : tab.all (S.rf noR) = true) : Rel (env0 Y P g ζ) (heap0 tab) W := by
  refine ⟨fun r hr => ?_, fun r r' hr hr' hne hw hd => ?_, fun r hr => ?_, fun r hr => ?_⟩
  · obtain ⟨rfl, h⟩ := heap0_at r hr
    rw [h]
    exact ⟨hlt, fun i s hs => by rw [← hc i s hs]; simp [adr, env0]⟩
  · rw [(heap0_at r hr).2] at hw; cases hw
  · rw [(heap0_at r hr).2]; exact ss_mono (fun p hp => by cases hp) hf
  · rw [(heap0_at r hr).2]; exact ss_mono (fun p hp => by cases hp) hf
theorem law_run (hm : P.follows .mixedOrders = true) (HP : ProgOk Y P prog) (HN : CalOk Y P (kp Y P ζ) nat) {g : Nat} (hY : Y.g = some (g, .z)) {tab : List S} {W : World} (hlt : g < W.heap.size) (hc : ∀ (i : Nat) s, tab[i]? = some s → W.cell? ⟨g, i, none⟩ = some (s.tr (env0 Y P g ζ))) (hf : tab.all (S.rf noR) = true)
    {f : Pth} {A : List V} {n : Nat} {v : V} (hr : valB (calM prog nat n (.fn f []) A (heap0 tab)) v = true) {args : Array Value} (hA : Iss (env0 Y P g ζ) A args.toList) (hAf : A.all (V.rf noR) = true) (hv : v.rf noR = true) (hu : v ≠ .u) (hnu : v.nU = true) :
    Calls P f.n args W fun e W' => e = .returned (v.tr (env0 Y P g ζ)) ∧ Still W W' := by
  obtain ⟨h', hr⟩ := valB_out hr
  have hR := rel0 (Y := Y) (P := P) (ζ := ζ) hlt hc hf
  have hC := calM_ok hm HP HN n (.fn f []) A (heap0 tab) _ hr (env0 Y P g ζ) W args.toList ⟨rfl, rfl, rfl⟩ hR (fun g' p hg => by
    rw [hY] at hg; cases hg; exact ⟨rfl, rfl⟩) rfl (by
      simp only [List.all_eq_true] at hAf ⊢
      exact fun x hx => V.rf_mono (fun p hp => by cases hp) (hAf x hx)) hA
  have hC := hC.2
  simp only [List.map_nil, Array.toArray_toList] at hC
  have e1 : args ++ [].toArray = args := by simp
  rw [e1] at hC
  refine hC.mono ?_
  rintro en W' ⟨x, rfl, e', i1, _, i3, _⟩
  have AF : AgrF noR e' (env0 Y P g ζ) := ⟨fun r hr => (by cases hr), fun r hr => (by cases hr), i1.agr.ρ.symm, i1.agr.β.symm⟩
  have hx : x = v.tr (env0 Y P g ζ) := by
    rcases AF.isu hv i3 with h | h
    · exact absurd h hu
    · exact h.eq hnu
  exact ⟨by rw [hx], i1.os, i1.output, fun b hb => i1.keep b hb fun r hr hw => by rw [(heap0_at r hr).2] at hw; cases hw⟩
def symA : List IntKind → Nat → List V
  | [], _ => []
  | k :: ks, j => .s (.i k ((symN + j : Nat) : Int)) :: symA ks (j + 1)
def intsOf : List Value → List Int
  | [] => []
  | .int _ n :: vs => n :: intsOf vs
  | _ :: vs => 0 :: intsOf vs
theorem symA_is {g : Nat} {ρ : Nat → Int} {β : Nat} : ∀ {ks : List IntKind} {vs : List Value} {j : Nat}, areI ks vs → (∀ i n, (intsOf vs)[i]? = some n → ρ (j + i) = n) → Iss (env0 Y P g (ρ, β)) (symA ks j) vs ∧ (symA ks j).all (V.rf noR) = true
  | [], [], _, _, _ => ⟨.nil, rfl⟩
  | [], _ :: _, _, h, _ => h.elim
  | _ :: _, [], _, h, _ => h.elim
  | k :: ks, v :: vs, j, h, hρ => by
    obtain ⟨⟨n, rfl, hw⟩, h2⟩ := h
    obtain ⟨i1, i2⟩ := symA_is (g := g) (ρ := ρ) (β := β) (j := j + 1) h2 (fun i m hm => by
      have := hρ (i + 1) m (by simpa [intsOf] using hm)
      rw [← this]; congr 1; omega)
    refine ⟨.cons (.inr (.inl ?_)) i1, ?_⟩
    · have h0 := hρ 0 n (by simp [intsOf])
      simp only [V.tr, S.tr, vl, env0]
      rw [if_pos (by unfold symN; omega), if_pos (by omega)]
      have : ((symN + j : Nat) : Int).toNat - symN = j + 0 := by omega
      rw [this, h0]
    · simp only [symA, List.all_cons, Bool.and_eq_true]; exact ⟨rfl, i2⟩
noncomputable def memS (s0 : S) (A : List V) (H : Hp) (v : V) (H' : Hp) : Cal := fun s args h =>
  onB (sEq s0 s) (onB (vsEq A args) (onB (simB H h) (Hp.rec (fun _ _ _ _ fz df ch => Hp.rec (fun b n er eq _ _ _ => some (v, Hp.mk b n er eq fz df ch)) H') h) none) none) none
theorem memS_ok {κ : KP} {cal : Cal} (HC : CalOk Y P κ cal) {s0 : S} {A : List V} {H : Hp} {v : V} {H' : Hp} (hr : runB (cal s0 A H) v H' = true) : CalOk Y P κ (memS s0 A H v H') := fun s args h r h1 e w xs hκ hR hG hs hf hx => by
  obtain ⟨h2, hr2, S2⟩ := runB_out hr
  obtain ⟨c1, h3⟩ := onB_t (show onB (sEq s0 s) _ none = some r from h1)
  obtain ⟨c2, h4⟩ := onB_t h3
  obtain ⟨c3, h5⟩ := onB_t h4
  clear h1 h3 h4
  have c1 := sEq_eq c1
  have c2 := vsEq_eq c2
  have S := simB_sim c3
  subst c1
  subst c2
  obtain ⟨b, n, er, eq, fz, df, ch⟩ := h
  obtain ⟨b', n', er', eq', fz', df', ch'⟩ := H'
  cases h5
  have hn : (Hp.mk b n er eq fz df ch).n = H.n := S.n
  have hC := HC _ _ _ _ hr2 e w xs hκ (hR.sim S.symm) (by rw [← hn]; exact hG) (by rw [← hn]; exact hs) (by rw [← hn]; exact hf) hx
  refine hC.mono fun x w' ⟨e', i1, i2, i3, i4⟩ => ⟨e', i1.sim S ⟨S2.symm.n, S2.symm.er, S2.symm.eq, fun p hp => S2.symm.at_ p hp⟩ rfl rfl, rfl, i3, ?_⟩
  have : h2.n = n' := S2.n
  rw [← this]; exact i4
def hset (h : Hp) (l : List (Pth × B)) (n : Pth) (er eq : Nat) : Hp := ⟨l.foldl (fun b x => st .dd x.1 x.2 b) h.b, n, er, eq, 0, [], false⟩
noncomputable def oraC (f : Pth) (A : List V) (v : V) : Cal := fun s args h => onB (sEq (.fn f []) s) (onB (vsEq A args) (some (v, h)) none) none
theorem Iss.eq {e : Env} : ∀ {A : List V} {xs : List Value}, Iss e A xs → (A.all fun v => match v with | .u => false | v => v.nU) = true → xs = A.map (V.tr e)
  | _, _, .nil, _ => rfl
  | _, _, @All2.cons _ _ _ v x l m h1 h2, h => by
    simp only [List.all_cons, Bool.and_eq_true] at h
    rw [Iss.eq h2 h.2, List.map_cons]
    congr 1
    rcases h1 with h1 | h1
    · subst h1; cases h.1
    · refine h1.eq ?_
      cases v <;> first | exact h.1 | (cases h.1; done)
theorem oraC_ok {κ : KP} {f : Pth} {A : List V} {v : V} (hA : (A.all fun v => match v with | .u => false | v => v.nU) = true) (hv : v.rf noR = true) (hf : FnOk P f.n)
    (H : ∀ (e : Env) (w : World), EK e κ → Calls P f.n (A.map (V.tr e)).toArray w fun en w' => en = .returned (v.tr e) ∧ w' = w) : CalOk Y P κ (oraC f A v) := fun s args h r h1 e w xs hκ hR hG hs hfa hx => by
  obtain ⟨c1, h2⟩ := onB_t (show onB (sEq (.fn f []) s) _ none = some r from h1)
  obtain ⟨c2, h3⟩ := onB_t h2
  clear h1 h2
  have c1 := sEq_eq c1
  have c2 := vsEq_eq c2
  subst c1
  subst c2
  cases h3
  rw [hx.eq hA]
  refine ⟨hf, ?_⟩
  have e1 : (A.map (V.tr e)).toArray ++ (([] : List (Pth × Nat)).map fun x => Value.pointer (some (adr e x.1 x.2))).toArray = (A.map (V.tr e)).toArray := by simp
  rw [e1]
  refine (H e w hκ).mono ?_
  rintro en w' ⟨rfl, rfl⟩
  exact ⟨_, rfl, e, .refl hR, rfl, .inr (.inl rfl), V.rf_mono (fun p hp => by cases hp) hv⟩
end
end Go.E
