/- A part of the proof of the claim that the last text of this folder states. -/
import Derived.Test.YtebgbhgehnpahaaGreatDoorS15
namespace Go.E
set_option linter.all false
structure allN {α : Type} (Q : D8 → α → Prop) (x : N8 α) : Prop where
  h0 : Q .a x.x0
  h1 : Q .b x.x1
  h2 : Q .c x.x2
  h3 : Q .d x.x3
  h4 : Q .e x.x4
  h5 : Q .f x.x5
  h6 : Q .g x.x6
  h7 : Q .h x.x7
theorem allN.at {α : Type} {Q : D8 → α → Prop} {x : N8 α} (h : allN Q x) (i : D8) : Q i (x.g i) := by
  cases i with
  | a => exact h.h0
  | b => exact h.h1
  | c => exact h.h2
  | d => exact h.h3
  | e => exact h.h4
  | f => exact h.h5
  | g => exact h.h6
  | h => exact h.h7
theorem allN.e8 {α : Type} {Q : D8 → α → Prop} {x : α} (h : ∀ i, Q i x) : allN Q (e8 x) := ⟨h _, h _, h _, h _, h _, h _, h _, h _⟩
structure allT {α : Type} (Q : Pth → α → Prop) (x : Tr α) : Prop where
  s : allN (fun i => allN fun j => Q (.s i j)) x.s
  t : allN (fun i => allN fun j => allN fun k => Q (.t i j k)) x.t
  o : x.o = []
theorem allT_gt {α : Type} {d : α} {t : Tr α} {Q : Pth → α → Prop} (h : allT Q t) (hd : ∀ p, Q p d) (p : Pth) : Q p (gt d p t) := by
  cases p with
  | s i j => exact (h.s.at i).at j
  | t i j k => exact ((h.t.at i).at j).at k
  | o n => show Q _ (lkF d n t.o); rw [h.o]; exact hd _
theorem gtF_eq (p : Pth) (t : Tr FJ) : gtF p t = gt fdef p t := rfl
def FOk (Y : Lay) (P : Program) (n : Nat) (F : FJ) : Prop := ∃ (fn : Func) (c : Code), P.funcs[n]? = some fn ∧ (fn.name == "runtime.NumGoroutine") = false ∧ fn.body = some c ∧ compC Y P fn.ntmps c = some F.body ∧ compR P fn.results.toList = some F.res
def bodyC (Y : Lay) (P : Program) (fn : Func) : Option DJ := match fn.body with
  | some c => compC Y P fn.ntmps c
  | none => none
theorem fok {Y : Lay} {P : Program} {n : Nat} {F : FJ} (fn : Func) (h1 : P.funcs[n]? = some fn) (h2 : (fn.name == "runtime.NumGoroutine") = false) (h3 : bodyC Y P fn = some F.body) (h4 : compR P fn.results.toList = some F.res) : FOk Y P n F := by
  unfold bodyC at h3
  cases hb : fn.body with
  | none => rw [hb] at h3; cases h3
  | some c => rw [hb] at h3; exact ⟨fn, c, h1, h2, hb, h3, h4⟩
theorem prog_ok {Y : Lay} {P : Program} {t : Tr FJ} (h : allT (fun p F => F = fdef ∨ FOk Y P p.n F) t) : ProgOk Y P t := fun f => by
  rw [gtF_eq]
  exact allT_gt h (fun p => .inl rfl) f
abbrev ML := List (List V × V)
noncomputable def gtM (p : Pth) : Tr ML → ML := Pth.rec (motive := fun _ => Tr ML → ML) (fun i j t => N8.g j (N8.g i t.s)) (fun i j k t => N8.g k (N8.g j (N8.g i t.t))) (fun n t => lkF [] n t.o) p
theorem gtM_eq (p : Pth) (t : Tr ML) : gtM p t = gt [] p t := rfl
noncomputable def pmL (args : List V) (h : Hp) (l : ML) : Ans := List.rec none (fun x _ ih => Prod.rec (fun A v => Bool.rec ih (some (v, h)) (vsEq A args)) x) l
noncomputable def pmC (tbl : Tr ML) : Cal := fun s args h =>
  S.rec (fun _ => none) (fun _ _ => none) (fun _ _ => none) none (fun _ _ _ _ => none) none (fun _ _ => none) (fun f cs => List.rec (pmL args h (gtM f tbl)) (fun _ _ _ => none) cs) (fun _ _ _ _ => none) none (fun _ => none) (fun _ => none) none (fun _ => none) none (fun _ _ => none) s
def hD : Hp := ⟨.e .dd, .s .a .b, 1000000000, 0, 0, [], false⟩
def noR : Pth → Bool := fun _ => false
noncomputable def valB (r : Ans) (v : V) : Bool := Option.rec false (fun q => Prod.rec (fun v' _ => vEq v v') q) r
theorem valB_out {r : Ans} {v : V} (h : valB r v = true) : ∃ h', r = some (v, h') := by
  cases r with
  | none => cases h
  | some q =>
    obtain ⟨v', h'⟩ := q
    rw [vEq_eq (show vEq v v' = true from h)]
    exact ⟨h', rfl⟩
noncomputable def pmB (cal : Cal) (f : Pth) (x : List V × V) : Bool := Prod.rec (fun A v => and (A.all (V.rf noR)) (and (v.rf noR) (valB (cal (.fn f []) A hD) v))) x
theorem pmL_some {args : List V} {h : Hp} : ∀ {l : ML} {r : RES}, pmL args h l = some r → ∃ v, (args, v) ∈ l ∧ r = (v, h)
  | [], r, hr => by cases hr
  | (A, v) :: l, r, hr => by
    have hr : (Bool.rec (pmL args h l) (some (v, h)) (vsEq A args) : Ans) = some r := hr
    cases hb : vsEq A args with
    | true =>
      rw [hb] at hr
      rw [vsEq_eq hb]
      cases hr
      exact ⟨v, List.mem_cons_self, rfl⟩
    | false =>
      rw [hb] at hr
      obtain ⟨v', h1, h2⟩ := pmL_some (l := l) hr
      exact ⟨v', List.mem_cons_of_mem _ h1, h2⟩
section
variable {Y : Lay} {P : Program} {κ : KP} {cal : Cal}
theorem hD_at (p : Pth) : hD.at p = .dd := gt_e _ p
theorem pmC_ok (hY : ∀ g p, Y.g = some (g, p) → p = .z) (HC : CalOk Y P κ cal) {tbl : Tr ML} (h : allT (fun f l => l.all (pmB cal f) = true) tbl) : CalOk Y P κ (pmC tbl) := fun s args h0 r h1 e w xs hκ hR hG hs hf hx => by
  cases s <;> first | (cases h1; done) | skip
  rename_i f cs
  cases cs with
  | cons _ _ => cases h1
  | nil =>
    have h1 : pmL args h0 (gtM f tbl) = some r := h1
    rw [gtM_eq] at h1
    obtain ⟨v, h2, rfl⟩ := pmL_some h1
    have hall := allT_gt (d := []) h (fun _ => rfl) f
    have h3 : pmB cal f (args, v) = true := List.all_eq_true.1 hall _ h2
    obtain ⟨c1, c2⟩ := and_t (show and (args.all (V.rf noR)) (and (v.rf noR) (valB (cal (.fn f []) args hD) v)) = true from h3)
    obtain ⟨c2, c3⟩ := and_t c2
    obtain ⟨h4, hr⟩ := valB_out c3
    have hR0 : Rel e hD w := by
      exact ⟨fun r _ => (by rw [hD_at]; trivial), fun r r' _ _ _ hw => (by rw [hD_at] at hw; cases hw), fun r _ => (by rw [hD_at]; rfl), fun r _ => (by rw [hD_at]; rfl)⟩
    have hG0 : Gl Y e (Pth.ok hD.n.n) := fun g p hg => by
      refine ⟨?_, (hG g p hg).2⟩
      rw [hY g p hg]; rfl
    have hC := HC _ _ _ _ hr e w xs hκ hR0 hG0 hs (by
      simp only [List.all_eq_true] at c1 ⊢
      exact fun x hx => V.rf_mono (fun p hp => by cases hp) (c1 x hx)) hx
    refine hC.mono fun x w' ⟨e', i1, i2, i3, i4⟩ => ?_
    have hk : ∀ b, b < w.heap.size → w'.heap[b]? = w.heap[b]? := fun b hb => i1.keep b hb fun r _ hw => (by rw [hD_at] at hw; cases hw)
    have S : Step e h0 w e h0 w' := ⟨⟨fun r hr => (hR.ok r hr).move (Agr.refl h0.n.n e) hr (hR.val r hr) i1.size fun hd => hk _ ((hR.ok r hr).lt hd), hR.sep, hR.val, hR.esc⟩, rfl, rfl, Agr.refl _ _, Nat.le_refl _, i1.os, i1.tape, i1.output, i1.size, fun b hb _ => hk b hb, fun r hr hw => .inl ⟨r, hr, hw, rfl⟩, fun r hr hw => .inl ⟨r, hr, hw, rfl⟩⟩
    have AF : AgrF noR e' e := ⟨fun r hr => (by cases hr), fun r hr => (by cases hr), i1.agr.ρ.symm, i1.agr.β.symm⟩
    exact ⟨e, S, rfl, AF.isu c2 i3, V.rf_mono (fun p hp => by cases hp) c2⟩
end
def heap0 (tab : List S) : Hp := ⟨st .dd .z (.ro tab) (.e .dd), .s .a .b, 1000000000, 0, 0, [], false⟩
def env0 (Y : Lay) (P : Program) (g : Nat) (ζ : (Nat → Int) × Nat) : Env := { σ := fun _ => (g, 0), δ := fun _ => 0, ρ := ζ.1, β := ζ.2, κ := kapE Y P }
section
variable {Y : Lay} {P : Program} {ζ : (Nat → Int) × Nat} {prog : Tr FJ} {nat : Cal}
theorem heap0_at {tab : List S} (r : Pth) (hr : r.n < (heap0 tab).n.n) : r = .z ∧ (heap0 tab).at r = .ro tab := by
  have : r.n < 1 := hr
  have h0 : r.n = Pth.z.n := by show r.n = 0; omega
  have := Pth.inj h0
  subst this
  exact ⟨rfl, rfl⟩
theorem rel0 {tab : List S} {g : Nat} {W : World} (hlt : g < W.heap.size) (hc : ∀ (i : Nat) s, tab[i]? = some s → W.cell? ⟨g, i, none⟩ = some (s.tr (env0 Y P g ζ))) (hf : tab.all (S.rf noR) = true) : Rel (env0 Y P g ζ) (heap0 tab) W := by
  refine ⟨fun r hr => ?_, fun r r' hr hr' hne hw hd => ?_, fun r hr => ?_, fun r hr => ?_⟩
  · obtain ⟨rfl, h⟩ := heap0_at r hr
    rw [h]
    exact ⟨hlt, fun i s hs => by rw [← hc i s hs]; simp [adr, env0]⟩
  · rw [(heap0_at r hr).2] at hw; cases hw
  · rw [(heap0_at r hr).2]; exact ss_mono (fun p hp => by cases hp) hf
  · rw [(heap0_at r hr).2]; exact ss_mono (fun p hp => by cases hp) hf
theorem law_run (hm : P.follows .mixedOrders = true) (HP : ProgOk Y P prog) (HN : CalOk Y P (kp Y P ζ) nat) {g : Nat} (hY : Y.g = some (g, .z)) {tab : List S} {W : World} (hlt : g < W.heap.size) (hc : ∀ (i : Nat) s, tab[i]? = some s → W.cell? ⟨g, i, none⟩ = some (s.tr (env0 Y P g ζ))) (hf : tab.all (S.rf noR) = true)
    {f : Pth} {A : List V} {n : Nat} {v : V} (hr : valB (calM prog nat n (.fn f []) A (heap0 tab)) v = true) {args : Array Value} (hA : Iss (env0 Y P g ζ) A args.toList) (hAf : A.all (V.rf noR) = true) (hv : v.rf noR = true) (hu : v ≠ .u) (hnu : v.nU = true) :
    Calls P f.n args W fun e W' => e = .returned (v.tr (env0 Y P g ζ)) ∧ Still W W' := by
  obtain ⟨h', hr⟩ := valB_out hr
  have hR := rel0 (Y := Y) (P := P) (ζ := ζ) hlt hc hf
  have hC := calM_ok hm HP HN n (.fn f []) A (heap0 tab) _ hr (env0 Y P g ζ) W args.toList ⟨rfl, rfl, rfl⟩ hR (fun g' p hg => by
    rw [hY] at hg; cases hg; exact ⟨rfl, rfl⟩) rfl (by
      simp only [List.all_eq_true] at hAf ⊢
      exact fun x hx => V.rf_mono (fun p hp => by cases hp) (hAf x hx)) hA
  have hC := hC.2
  simp only [List.map_nil, Array.toArray_toList] at hC
  have e1 : args ++ [].toArray = args := by simp
  rw [e1] at hC
  refine hC.mono ?_
  rintro en W' ⟨x, rfl, e', i1, _, i3, _⟩
  have AF : AgrF noR e' (env0 Y P g ζ) := ⟨fun r hr => (by cases hr), fun r hr => (by cases hr), i1.agr.ρ.symm, i1.agr.β.symm⟩
  have hx : x = v.tr (env0 Y P g ζ) := by
    rcases AF.isu hv i3 with h | h
    · exact absurd h hu
    · exact h.eq hnu
  exact ⟨by rw [hx], i1.os, i1.output, fun b hb => i1.keep b hb fun r hr hw => by rw [(heap0_at r hr).2] at hw; cases hw⟩
def symA : List IntKind → Nat → List V
  | [], _ => []
  | k :: ks, j => .s (.i k ((symN + j : Nat) : Int)) :: symA ks (j + 1)
def intsOf : List Value → List Int
  | [] => []
  | .int _ n :: vs => n :: intsOf vs
  | _ :: vs => 0 :: intsOf vs
theorem symA_is {g : Nat} {ρ : Nat → Int} {β : Nat} : ∀ {ks : List IntKind} {vs : List Value} {j : Nat}, areI ks vs → (∀ i n, (intsOf vs)[i]? = some n → ρ (j + i) = n) → (hj : j + ks.length < 1000 := by decide) → Iss (env0 Y P g (ρ, β)) (symA ks j) vs ∧ (symA ks j).all (V.rf noR) = true
  | [], [], _, _, _, _ => ⟨.nil, rfl⟩
  | [], _ :: _, _, h, _, _ => h.elim
  | _ :: _, [], _, h, _, _ => h.elim
  | k :: ks, v :: vs, j, h, hρ, hj => by
    have hj : j + (ks.length + 1) < 1000 := hj
    obtain ⟨⟨n, rfl, hw⟩, h2⟩ := h
    obtain ⟨i1, i2⟩ := symA_is (g := g) (ρ := ρ) (β := β) (j := j + 1) h2 (fun i m hm => by
      have := hρ (i + 1) m (by simpa [intsOf] using hm)
      rw [← this]; congr 1; omega) (by omega)
    refine ⟨.cons (.inr (.inl ?_)) i1, ?_⟩
    · have h0 := hρ 0 n (by simp [intsOf])
      simp only [V.tr, S.tr, vl, env0]
      rw [if_pos (by unfold symN; omega), if_pos (by omega), if_neg (by unfold symN gN; omega)]
      have : ((symN + j : Nat) : Int).toNat - symN = j + 0 := by omega
      rw [this, h0]
    · simp only [symA, List.all_cons, Bool.and_eq_true]; exact ⟨rfl, i2⟩
noncomputable def memS (s0 : S) (A : List V) (H : Hp) (v : V) (H' : Hp) : Cal := fun s args h =>
  onB (sEq s0 s) (onB (vsEq A args) (onB (simB H h) (Hp.rec (fun _ _ _ _ fz df ch => Hp.rec (fun b n er eq _ _ _ => some (v, Hp.mk b n er eq fz df ch)) H') h) none) none) none
theorem memS_ok {κ : KP} {cal : Cal} (HC : CalOk Y P κ cal) {s0 : S} {A : List V} {H : Hp} {v : V} {H' : Hp} (hr : runB (cal s0 A H) v H' = true) : CalOk Y P κ (memS s0 A H v H') := fun s args h r h1 e w xs hκ hR hG hs hf hx => by
  obtain ⟨h2, hr2, S2⟩ := runB_out hr
  obtain ⟨c1, h3⟩ := onB_t (show onB (sEq s0 s) _ none = some r from h1)
  obtain ⟨c2, h4⟩ := onB_t h3
  obtain ⟨c3, h5⟩ := onB_t h4
  clear h1 h3 h4
  have c1 := sEq_eq c1
  have c2 := vsEq_eq c2
  have S := simB_sim c3
  subst c1
  subst c2
  obtain ⟨b, n, er, eq, fz, df, ch⟩ := h
  obtain ⟨b', n', er', eq', fz', df', ch'⟩ := H'
  cases h5
  have hn : (Hp.mk b n er eq fz df ch).n = H.n := S.n
  have hC := HC _ _ _ _ hr2 e w xs hκ (hR.sim S.symm) (by rw [← hn]; exact hG) (by rw [← hn]; exact hs) (by rw [← hn]; exact hf) hx
  refine hC.mono fun x w' ⟨e', i1, i2, i3, i4⟩ => ⟨e', i1.sim S ⟨S2.symm.n, S2.symm.er, S2.symm.eq, fun p hp => S2.symm.at_ p hp⟩ rfl rfl, rfl, i3, ?_⟩
  have : h2.n = n' := S2.n
  rw [← this]; exact i4
def hset (h : Hp) (l : List (Pth × B)) (n : Pth) (er eq : Nat) : Hp := ⟨l.foldl (fun b x => st .dd x.1 x.2 b) h.b, n, er, eq, 0, [], false⟩
noncomputable def oraC (f : Pth) (A : List V) (v : V) : Cal := fun s args h => onB (sEq (.fn f []) s) (onB (vsEq A args) (some (v, h)) none) none
theorem Iss.eq {e : Env} : ∀ {A : List V} {xs : List Value}, Iss e A xs → (A.all fun v => match v with | .u => false | v => v.nU) = true → xs = A.map (V.tr e)
  | _, _, .nil, _ => rfl
  | _, _, @All2.cons _ _ _ v x l m h1 h2, h => by
    simp only [List.all_cons, Bool.and_eq_true] at h
    rw [Iss.eq h2 h.2, List.map_cons]
    congr 1
    rcases h1 with h1 | h1
    · subst h1; cases h.1
    · refine h1.eq ?_
      cases v <;> first | exact h.1 | (cases h.1; done)
theorem oraC_ok {κ : KP} {f : Pth} {A : List V} {v : V} (hA : (A.all fun v => match v with | .u => false | v => v.nU) = true) (hv : v.rf noR = true) (hf : FnOk P f.n)
    (H : ∀ (e : Env) (w : World), EK e κ → Calls P f.n (A.map (V.tr e)).toArray w fun en w' => en = .returned (v.tr e) ∧ w' = w) : CalOk Y P κ (oraC f A v) := fun s args h r h1 e w xs hκ hR hG hs hfa hx => by
  obtain ⟨c1, h2⟩ := onB_t (show onB (sEq (.fn f []) s) _ none = some r from h1)
  obtain ⟨c2, h3⟩ := onB_t h2
  clear h1 h2
  have c1 := sEq_eq c1
  have c2 := vsEq_eq c2
  subst c1
  subst c2
  cases h3
  rw [hx.eq hA]
  refine ⟨hf, ?_⟩
  have e1 : (A.map (V.tr e)).toArray ++ (([] : List (Pth × Nat)).map fun x => Value.pointer (some (adr e x.1 x.2))).toArray = (A.map (V.tr e)).toArray := by simp
  rw [e1]
  refine (H e w hκ).mono ?_
  rintro en w' ⟨rfl, rfl⟩
  exact ⟨_, rfl, e, .refl hR, rfl, .inr (.inl rfl), V.rf_mono (fun p hp => by cases hp) hv⟩
end
noncomputable def wsum (l : List (Nat × Nat)) : Nat := List.rec 0 (fun x _ ih => Prod.rec (fun i n => Nat.add (Nat.shiftLeft n (Nat.mul 64 i)) ih) x) l
noncomputable def W (l : List (Nat × Nat)) (o : List (Nat × Int)) : Wt := .mk (wsum l) o
noncomputable def wup (t : Wt) (l : List (Nat × Int)) : Wt := List.rec (motive := fun _ => Wt → Wt) (fun t => t) (fun x _ ih t => Prod.rec (fun i n => ih (wst t i n)) x) l t
noncomputable def hmk (l : List (Pth × B)) (n : Pth) (er eq : Nat) : Hp := hset ⟨Tr.e .dd, .z, 0, 0, 0, [], false⟩ l n er eq
noncomputable def wB (h : Hp) (p : Pth) (l : List (Nat × Int)) : B := B.rec .dd (fun _ => .dd) (fun _ => .dd) (fun _ _ _ => .dd) (fun k m D d => .w k m D (wup d l)) (fun _ _ => .dd) (fun _ => .dd) (fun _ _ _ _ => .dd) (fun _ _ _ _ _ _ => .dd) .dd (fun _ => .dd) (fun _ => .dd) (h.at p)
noncomputable def Tt (l : List (Pth × V)) : T := l.foldl (fun t x => st vu x.1 x.2 t) tE
abbrev NF := List V → Hp → Ans
noncomputable def noN : NF := fun _ _ => none
noncomputable def gtC (p : Pth) : Tr NF → NF := Pth.rec (motive := fun _ => Tr NF → NF) (fun i j t => N8.g j (N8.g i t.s)) (fun i j k t => N8.g k (N8.g j (N8.g i t.t))) (fun n t => lkF noN n t.o) p
noncomputable def natC (tbl : Tr NF) : Cal := fun s args h =>
  S.rec (fun _ => none) (fun _ _ => none) (fun _ _ => none) none (fun _ _ _ _ => none) none (fun _ _ => none) (fun f cs => List.rec (gtC f tbl args h) (fun _ _ _ => none) cs) (fun _ _ _ _ => none) none (fun _ => none) (fun _ => none) none (fun _ => none) none (fun _ _ => none) s
noncomputable def orN (a b : NF) : NF := fun args h => Option.rec (b args h) (fun r => some r) (a args h)
section
variable {Y : Lay} {P : Program} {κ : KP}
def NfOk (Y : Lay) (P : Program) (κ : KP) (f : Nat) (c : NF) : Prop :=
  ∀ args h r, c args h = some r → ∀ e w xs, EK e κ → Rel e h w → Gl Y e (Pth.ok h.n.n) → args.all (V.rf (Pth.ok h.n.n)) = true → Iss e args xs → FnOk P f ∧ Calls P f xs.toArray w (ret (Post e h w r))
theorem noN_ok (f : Nat) : NfOk Y P κ f noN := fun _ _ _ h => by cases h
theorem orN_ok {f : Nat} {a b : NF} (ha : NfOk Y P κ f a) (hb : NfOk Y P κ f b) : NfOk Y P κ f (orN a b) := fun args h r hr => by
  have hr : (Option.rec (b args h) (fun r => some r) (a args h) : Ans) = some r := hr
  cases hn : a args h with
  | none => rw [hn] at hr; exact hb args h r hr
  | some r' => rw [hn] at hr; cases hr; exact ha args h _ hn
theorem natC_ok {tbl : Tr NF} (H : allT (fun p c => NfOk Y P κ p.n c) tbl) : CalOk Y P κ (natC tbl) := fun s args h r h1 e w xs hκ hR hG hs hf hx => by
  cases s <;> first | (cases h1; done) | skip
  rename_i f cs
  cases cs with
  | cons _ _ => cases h1
  | nil =>
    obtain ⟨i1, i2⟩ := allT_gt (d := noN) H (fun p => noN_ok p.n) f args h r (show gtC f tbl args h = some r from h1) e w xs hκ hR hG hf hx
    refine ⟨i1, ?_⟩
    have e1 : xs.toArray ++ (([] : List (Pth × Nat)).map fun x => Value.pointer (some (adr e x.1 x.2))).toArray = xs.toArray := by simp
    rw [e1]; exact i2
theorem NfOk.of {f : Pth} {c : NF} {cal : Cal} (HC : CalOk Y P κ cal) (h : ∀ args h r, c args h = some r → cal (.fn f []) args h = some r) : NfOk Y P κ f.n c := fun args h0 r hr e w xs hκ hR hG hf hx => by
  obtain ⟨i1, i2⟩ := HC (.fn f []) args h0 r (h args h0 r hr) e w xs hκ hR hG rfl hf hx
  have e1 : xs.toArray ++ (([] : List (Pth × Nat)).map fun x => Value.pointer (some (adr e x.1 x.2))).toArray = xs.toArray := by simp
  rw [e1] at i2
  exact ⟨i1, i2⟩
end
theorem pm_core {Y : Lay} {P : Program} {κ : KP} {cal : Cal} (hY : ∀ g p, Y.g = some (g, p) → p = .z) (HC : CalOk Y P κ cal) {f : Pth} {args : List V} {v : V} (h3 : pmB cal f (args, v) = true)
    {e : Env} {h0 : Hp} {w : World} {xs : List Value} (hκ : EK e κ) (hR : Rel e h0 w) (hG : Gl Y e (Pth.ok h0.n.n)) (hx : Iss e args xs) : FnOk P f.n ∧ Calls P f.n xs.toArray w (ret (Post e h0 w (v, h0))) := by
  obtain ⟨c1, c2⟩ := and_t (show and (args.all (V.rf noR)) (and (v.rf noR) (valB (cal (.fn f []) args hD) v)) = true from h3)
  obtain ⟨c2, c3⟩ := and_t c2
  obtain ⟨h4, hr⟩ := valB_out c3
  have hR0 : Rel e hD w := by
    exact ⟨fun r _ => (by rw [hD_at]; trivial), fun r r' _ _ _ hw => (by rw [hD_at] at hw; cases hw), fun r _ => (by rw [hD_at]; rfl), fun r _ => (by rw [hD_at]; rfl)⟩
  have hG0 : Gl Y e (Pth.ok hD.n.n) := fun g p hg => by
    refine ⟨?_, (hG g p hg).2⟩
    rw [hY g p hg]; rfl
  obtain ⟨i0, hC⟩ := HC (.fn f []) _ _ _ hr e w xs hκ hR0 hG0 rfl (by
    simp only [List.all_eq_true] at c1 ⊢
    exact fun x hx => V.rf_mono (fun p hp => by cases hp) (c1 x hx)) hx
  have e1 : xs.toArray ++ (([] : List (Pth × Nat)).map fun x => Value.pointer (some (adr e x.1 x.2))).toArray = xs.toArray := by simp
  rw [e1] at hC
  refine ⟨i0, hC.mono ?_⟩
  rintro en w' ⟨x, hx1, e', i1, i2, i3, i4⟩
  refine ⟨x, hx1, ?_⟩
  have hk : ∀ b, b < w.heap.size → w'.heap[b]? = w.heap[b]? := fun b hb => i1.keep b hb fun r _ hw => (by rw [hD_at] at hw; cases hw)
  have S : Step e h0 w e h0 w' := ⟨⟨fun r hr => (hR.ok r hr).move (Agr.refl h0.n.n e) hr (hR.val r hr) i1.size fun hd => hk _ ((hR.ok r hr).lt hd), hR.sep, hR.val, hR.esc⟩, rfl, rfl, Agr.refl _ _, Nat.le_refl _, i1.os, i1.tape, i1.output, i1.size, fun b hb _ => hk b hb, fun r hr hw => .inl ⟨r, hr, hw, rfl⟩, fun r hr hw => .inl ⟨r, hr, hw, rfl⟩⟩
  have AF : AgrF noR e' e := ⟨fun r hr => (by cases hr), fun r hr => (by cases hr), i1.agr.ρ.symm, i1.agr.β.symm⟩
  exact ⟨e, S, rfl, AF.isu c2 i3, V.rf_mono (fun p hp => by cases hp) c2⟩
section
noncomputable def cuG (b : B) (c : S → Ans) : Ans := B.rec none (fun _ => none) (fun _ => none) (fun _ _ _ => none) (fun _ _ _ _ => none) (fun _ _ => none) (fun _ => none) (fun _ _ _ _ => none) (fun _ _ _ _ _ _ => none) none c (fun _ => none) b
noncomputable def wG (b : B) (c : IntKind → Nat → Nat → Wt → Ans) : Ans := B.rec none (fun _ => none) (fun _ => none) (fun _ _ _ => none) c (fun _ _ => none) (fun _ => none) (fun _ _ _ _ => none) (fun _ _ _ _ _ _ => none) none (fun _ => none) (fun _ => none) b
noncomputable def slG (s : S) (c : Pth → Nat → Nat → Nat → Ans) : Ans := S.rec (fun _ => none) (fun _ _ => none) (fun _ _ => none) none c none (fun _ _ => none) (fun _ _ => none) (fun _ _ _ _ => none) none (fun _ => none) (fun _ => none) none (fun _ => none) none (fun _ _ => none) s
noncomputable def memG (h : Hp) (x : V) (a : Nat) (c : Pth → Pth → Nat → Nat → Nat → Wt → Ans) : Ans :=
  asP x fun r o => onB (Nat.beq o 0) (cuG (h.gb r) fun s => slG s fun q p n k => onB (Nat.ble n k) (onB (Nat.blt k 1099511627776) (onB (Nat.blt a n) (wG (h.gb q) fun kd m D d => onB (kEq kd .u64) (onB (Nat.blt (Nat.add p a) m) (c r q (Nat.add p a) m D d) none) none) none) none) none) none
theorem cuG_some {b : B} {c : S → Ans} {r : RES} (h : cuG b c = some r) : ∃ s, b = .cu s ∧ c s = some r := by
  cases b <;> first | exact ⟨_, rfl, h⟩ | cases h
theorem wG_some {b : B} {c : IntKind → Nat → Nat → Wt → Ans} {r : RES} (h : wG b c = some r) : ∃ k m D d, b = .w k m D d ∧ c k m D d = some r := by
  cases b <;> first | exact ⟨_, _, _, _, rfl, h⟩ | cases h
theorem slG_some {s : S} {c : Pth → Nat → Nat → Nat → Ans} {r : RES} (h : slG s c = some r) : ∃ q p n k, s = .sl q p n k ∧ c q p n k = some r := by
  cases s <;> first | exact ⟨_, _, _, _, rfl, h⟩ | cases h
structure MemG (h : Hp) (x : V) (a : Nat) (r q : Pth) (i m D : Nat) (d : Wt) (p n k : Nat) : Prop where
  hx : x = .s (.p r 0)
  hr : h.at r = .cu (.sl q p n k)
  hq : h.at q = .w .u64 m D d
  nk : n ≤ k
  kG : k < 1099511627776
  an : a < n
  hi : i = p + a
  im : i < m
theorem memG_some {h : Hp} {x : V} {a : Nat} {c : Pth → Pth → Nat → Nat → Nat → Wt → Ans} {z : RES} (H : memG h x a c = some z) : ∃ r q i m D d p n k, MemG h x a r q i m D d p n k ∧ c r q i m D d = some z := by
  obtain ⟨r, o, h1, H1⟩ := asP_some H
  obtain ⟨h2, H2⟩ := onB_t H1
  obtain ⟨s, h3, H3⟩ := cuG_some H2
  obtain ⟨q, p, n, k, h4, H4⟩ := slG_some H3
  obtain ⟨h5, H5⟩ := onB_t H4
  obtain ⟨h6, H6⟩ := onB_t H5
  obtain ⟨h7, H7⟩ := onB_t H6
  obtain ⟨kd, m, D, d, h8, H8⟩ := wG_some H7
  obtain ⟨h9, H9⟩ := onB_t H8
  obtain ⟨h10, H10⟩ := onB_t H9
  have := nat_eq h2
  subst this
  have := kEq_t h9
  subst this
  subst h4
  exact ⟨r, q, p + a, m, D, d, p, n, k, ⟨h1, by rw [← Hp.gb_eq]; exact h3, by rw [← Hp.gb_eq]; exact h8, nat_le h5, nat_lt h6, nat_lt h7, rfl, nat_lt h10⟩, H10⟩
noncomputable def nRead : NF := fun args h => List.rec none (fun x args _ => List.rec none (fun y args _ => List.rec (asI y fun kd a => Int.rec (fun a => onB (kEq kd .i64) (memG h x a fun _ _ i _ _ d => fI (wgF d i) fun n => some (.tup [.s (.i .u64 n), .s (.i .i64 0)], h)) none) (fun _ => none) a) (fun _ _ _ => none) args) args) args
noncomputable def nWrite : NF := fun args h => List.rec none (fun x args _ => List.rec none (fun y args _ => List.rec none (fun z args _ => List.rec (asI y fun kd a => Int.rec (fun a => onB (kEq kd .i64) (asI z fun kz n => onB (kEq kz .u64) (onB (kn n) (memG h x a fun _ q i m D d => wsK d i n fun d => h.setK q (.w .u64 m D d) fun h => some (.s (.i .i64 0), h)) none) none) none) (fun _ => none) a) (fun _ _ _ => none) args) args) args) args
end
section
variable {e : Env} {h : Hp} {w : World}
theorem cu_step (H : Rel e h w) {q : Pth} {s : S} (hq : q.n < h.n.n) (hat : h.at q = .cu s) (m : Int) : Step e h w e h (w.setCell (adr e q 1) (.int .i64 m)) := by
  have g1 := H.ok q hq
  rw [hat] at g1
  obtain ⟨g1, g3, ⟨n0, g4⟩, g5⟩ := g1
  have hne : adr e q 1 ≠ adr e q 0 := by simp [adr]
  have U : Step e h w e (h.set q (.cu s)) (w.setCell (adr e q 1) (.int .i64 m)) := by
    refine Step.upd H hq (by rw [hat]; rfl) ⟨by rw [World.size_setCell]; exact g1, ?_, ⟨m, World.cell?_setCell_same _ _ _ g4⟩, fun i hi => ?_⟩ (by rw [← hat]; exact H.val q hq) (by rw [← hat]; exact H.esc q hq)
      (fun b hb => Go.RowKit.Below.heap_setCell _ _ _ _ hb) (by rw [World.size_setCell]; exact Nat.le_refl _) rfl rfl rfl
    · rw [World.cell?_setCell_other _ _ _ _ hne]; exact g3
    · rw [World.frozen?_setCell]
      refine ⟨?_, (g5 i hi).2⟩
      by_cases hi1 : i = 1
      · subst hi1; rw [World.cell?_setCell_same _ _ _ g4]; rfl
      · rw [World.cell?_setCell_other _ _ _ _ (by simp only [adr, ne_eq, Addr.mk.injEq, not_and]; omega)]; exact (g5 i hi).1
  have hsame : ∀ p, (h.set q (.cu s)).at p = h.at p := fun p => by
    rw [Hp.at_set]; split
    · rename_i e; rw [e, hat]
    · rfl
  refine ⟨⟨fun p hp => ?_, fun p p' hp hp' hne => ?_, H.val, H.esc⟩, rfl, rfl, U.agr, Nat.le_refl _, U.os, U.tape, U.output, U.size, U.keep, fun p hp hw => ?_, fun p hp hw => ?_⟩
  · have := U.rel.ok p hp; rw [hsame] at this; exact this
  · have := U.rel.sep p p' hp hp' hne; rw [hsame, hsame] at this; exact this
  · have := U.mine p hp; rw [hsame] at this; exact this hw
  · have := U.nd p hp; rw [hsame] at this
    rcases this hw with ⟨q2, k1, k2, k3⟩ | k
    · exact .inl ⟨q2, k1, k2, k3⟩
    · exact .inr k
theorem MemG.out {x : V} {a : Nat} {r q : Pth} {i m D : Nat} {d : Wt} {p n k : Nat} (G : MemG h x a r q i m D d p n k) (H : Rel e h w) (hr : r.n < h.n.n) (hq : q.n < h.n.n) :
    w.cell? (adr e r 0) = some (.slice (some (adr e q p)) n k) ∧ (∃ s, w.cell? (adr e r 1) = some (.int .i64 s)) ∧ w.frozen? (adr e r 1) = false ∧ w.cell? (adr e q i) = some (.int .u64 (vl e (wg d i))) ∧ w.frozen? (adr e q i) = false ∧ (e.σ r).1 ≠ (e.σ q).1 ∧ kn (wg d i) = true := by
  have g1 := H.ok r hr
  rw [G.hr] at g1
  obtain ⟨g1, g3, g4, g5⟩ := g1
  have g2 := H.ok q hq
  rw [G.hq] at g2
  obtain ⟨j1, j2, j3, j4, j5⟩ := g2
  have hv := H.val q hq
  rw [G.hq] at hv
  refine ⟨?_, g4, (g5 1 (by omega)).2, j2 i G.im, (j3 i G.im).2, H.sep r q hr hq ?_ (by rw [G.hr]; rfl) (by rw [G.hq]; simp), kn_wg hv⟩
  · rw [g3]
    have : cpT e q k = k := by unfold cpT; rw [if_pos (by have := G.kG; unfold Go.E.G; omega)]
    simp only [S.tr, this]
  · intro h; have h1 := G.hr; have h2 := G.hq; rw [h, h2] at h1; cases h1
theorem w_step {q : Pth} {i m D : Nat} {d : Wt} (H : Rel e h w) (hq : q.n < h.n.n) (hat : h.at q = .w .u64 m D d) (him : i < m) {n : Int} (hn : kn n = true) : Step e h w e (h.set q (.w .u64 m D (wst d i n))) (w.setCell (adr e q i) (.int .u64 (vl e n))) := by
  have g2 := H.ok q hq
  rw [hat] at g2
  obtain ⟨j1, j2, j3, j4, j5⟩ := g2
  have hv := H.val q hq
  rw [hat] at hv
  have hk : (wst d i n).kns = true := kns_wst hv hn
  refine Step.upd H hq (by rw [hat]; rfl) ⟨by rw [World.size_setCell]; exact j1, fun j hj => ?_, fun j hj => ?_, wst_deep j4, j5⟩ hk hk
    (fun b hb => Go.RowKit.Below.heap_setCell _ _ _ _ hb) (by rw [World.size_setCell]; exact Nat.le_refl _) rfl rfl rfl
  · rw [wg_wst (n := D) n j4 (by omega) (by omega)]
    by_cases hji : j = i
    · rw [if_pos hji, hji, World.cell?_setCell_same _ _ _ (j2 i him)]
    · rw [if_neg hji, World.cell?_setCell_other _ _ _ _ (by simp only [adr, ne_eq, Addr.mk.injEq, not_and]; omega)]; exact j2 j hj
  · rw [World.frozen?_setCell]
    refine ⟨?_, (j3 j hj).2⟩
    by_cases hji : j = i
    · rw [hji, World.cell?_setCell_same _ _ _ (j2 i him)]; rfl
    · rw [World.cell?_setCell_other _ _ _ _ (by simp only [adr, ne_eq, Addr.mk.injEq, not_and]; omega)]; exact (j3 j hj).1
theorem cu_weak {e' : Env} {h' : Hp} {w' : World} (U : Step e h w e' h' w') {r : Pth} {s : S} {n : Int} (hr : r.n < h'.n.n) (hat : h'.at r = .c [s, .i .i64 n]) : Step e h w e' (h'.set r (.cu s)) w' := by
  have H := U.rel
  have g := H.ok r hr
  rw [hat] at g
  obtain ⟨g1, g2, g3⟩ := g
  have hv := H.val r hr
  have he := H.esc r hr
  rw [hat] at hv he
  have hrf : ∀ {f : Pth → Bool}, (B.c [s, .i .i64 n]).rf f = true → (B.cu s).rf f = true := fun {f} h => by
    have h : ([s, S.i .i64 n].all (S.rf f)) = true := h
    simp only [List.all_cons, Bool.and_eq_true] at h
    exact h.1
  have hok : OkB e' w' r (.cu s) := ⟨g1, g2 0 s rfl, ⟨_, g2 1 _ rfl⟩, g3⟩
  have hd : ∀ p, (h'.set r (.cu s)).at p ≠ .dd → h'.at p ≠ .dd := fun p hp => by
    rw [Hp.at_set] at hp
    split at hp
    · rename_i e; rw [e, hat]; simp
    · exact hp
  have hw : ∀ p, ((h'.set r (.cu s)).at p).rw = true → (h'.at p).rw = true := fun p hp => by
    rw [Hp.at_set] at hp
    split at hp
    · rename_i e; rw [e, hat]; rfl
    · exact hp
  refine ⟨⟨fun p hp => ?_, fun p p' hp hp' hne h1 h2 => H.sep p p' hp hp' hne (hw p h1) (hd p' h2), fun p hp => ?_, fun p hp => ?_⟩, U.fz, U.ch, U.agr, U.le, U.os, U.tape, U.output, U.size, U.keep, fun p hp h1 => U.mine p hp (hw p h1), fun p hp h1 => U.nd p hp (hd p h1)⟩
  · rw [Hp.at_set]
    split
    · rename_i e; rw [e]; exact hok
    · exact H.ok p hp
  · rw [Hp.at_set]
    split
    · exact hrf hv
    · exact H.val p hp
  · rw [Hp.at_set]
    split
    · rename_i e; rw [e]; exact hrf he
    · exact H.esc p hp
end
noncomputable def c2G (b : B) (c : S → Ans) : Ans := B.rec none (fun _ => none) (fun cs => List.rec none (fun x cs _ => List.rec none (fun y cs _ => List.rec (asI (.s y) fun k n => onB (kEq k .i64) (c x) none) (fun _ _ _ => none) cs) cs) cs) (fun _ _ _ => none) (fun _ _ _ _ => none) (fun _ _ => none) (fun _ => none) (fun _ _ _ _ => none) (fun _ _ _ _ _ _ => none) none (fun _ => none) (fun _ => none) b
noncomputable def nCu (cal : Cal) (f : Pth) : NF := fun args h => onO (cal (.fn f []) args h) fun q => Prod.rec (fun v h' => V.rec (fun _ => none) (fun _ => none) (fun cs => List.rec none (fun x _ _ => C.rec (fun s => asP (.s s) fun r _ => c2G (h'.gb r) fun s => h'.setK r (.cu s) fun h' => some (v, h')) (fun _ => none) x) cs) none v) q
theorem c2G_some {b : B} {c : S → Ans} {r : RES} (h : c2G b c = some r) : ∃ s n, b = .c [s, .i .i64 n] ∧ c s = some r := by
  cases b <;> first | (cases h; done) | skip
  rename_i cs
  match cs, h with
  | [x, y], h =>
    obtain ⟨k, n, h1, h2⟩ := asI_s (show asI (.s y) (fun k n => onB (kEq k .i64) (c x) none) = some r from h)
    obtain ⟨h3, h4⟩ := onB_t h2
    rw [h1, kEq_t h3]
    exact ⟨x, n, rfl, h4⟩
  | [], h => cases h
  | [_], h => cases h
  | _ :: _ :: _ :: _, h => cases h
theorem nCu_ok {Y : Lay} {P : Program} {κ : KP} {cal : Cal} (HC : CalOk Y P κ cal) (f : Pth) : NfOk Y P κ f.n (nCu cal f) := fun args h z hz e w xs hκ hR hG hf hx => by
  obtain ⟨⟨v, h'⟩, c1, c2⟩ := onO_some hz
  obtain ⟨i1, i2⟩ := HC (.fn f []) args h _ c1 e w xs hκ hR hG rfl hf hx
  have e1 : xs.toArray ++ (([] : List (Pth × Nat)).map fun x => Value.pointer (some (adr e x.1 x.2))).toArray = xs.toArray := by simp
  rw [e1] at i2
  refine ⟨i1, i2.mono ?_⟩
  rintro en w' ⟨x, hx1, e', U, j1, j2, j3⟩
  refine ⟨x, hx1, e', ?_⟩
  cases v with
  | s _ => cases c2
  | agg _ => cases c2
  | u => cases c2
  | tup cs => cases cs with
    | nil => cases c2
    | cons y cs => cases y with
      | agg _ => cases c2
      | s s =>
        obtain ⟨r, o, c3, c4⟩ := asP_some (show asP (.s s) (fun r _ => c2G (h'.gb r) fun s' => h'.setK r (.cu s') fun h' => some (V.tup (.s s :: cs), h')) = some z from c2)
        obtain ⟨s2, n, c5, c6⟩ := c2G_some c4
        rw [Hp.setK_eq] at c6
        cases c6
        cases c3
        have hr : r.n < h'.n.n := by
          have hj : (V.tup (.s (.p r o) :: cs)).ok h'.n.n = true := j3
          simp only [V.ok, V.rf, List.all_cons, Bool.and_eq_true] at hj
          exact Pth.ok_iff.1 hj.1
        exact ⟨cu_weak U hr (by rw [← Hp.gb_eq]; exact c5), j1, j2, j3⟩
theorem isu_eq {e : Env} {v : V} {x : Value} (h : Isu e v x) (hu : v ≠ .u) (hn : v.nU = true) : x = v.tr e := by
  rcases h with h | h
  · exact absurd h hu
  · exact h.eq hn
theorem vl_nat {e : Env} {a : Nat} (h : a < 18446744073709551616) : vl e (.ofNat a) = a := vl_lt (by show (a : Int) < _; omega)
theorem iss2 {e : Env} {a b : V} : ∀ {xs : List Value}, Iss e [a, b] xs → ∃ x y, xs = [x, y] ∧ Isu e a x ∧ Isu e b y
  | [x, y], .cons h1 (.cons h2 .nil) => ⟨x, y, rfl, h1, h2⟩
theorem iss3 {e : Env} {a b c : V} : ∀ {xs : List Value}, Iss e [a, b, c] xs → ∃ x y z, xs = [x, y, z] ∧ Isu e a x ∧ Isu e b y ∧ Isu e c z
  | [x, y, z], .cons h1 (.cons h2 (.cons h3 .nil)) => ⟨x, y, z, rfl, h1, h2, h3⟩
theorem nRead_some : ∀ {args : List V} {h : Hp} {z : RES}, nRead args h = some z → ∃ x a r q i m D d p n k, args = [x, .s (.i .i64 (.ofNat a))] ∧ MemG h x a r q i m D d p n k ∧ z = (.tup [.s (.i .u64 (wg d i)), .s (.i .i64 0)], h)
  | [x, y], h, z, hz => by
    obtain ⟨kd, n, hy, h1⟩ := asI_some (show asI y _ = some z from hz)
    cases n with
    | negSucc _ => cases h1
    | ofNat a =>
      obtain ⟨h2, h3⟩ := onB_t (show onB (kEq kd .i64) _ none = some z from h1)
      obtain ⟨r, q, i, m, D, d, p, n, k, G, h4⟩ := memG_some h3
      rw [fI_eq, wgF_eq] at h4
      rw [hy, kEq_t h2]
      exact ⟨x, a, r, q, i, m, D, d, p, n, k, rfl, G, (Option.some.inj h4).symm⟩
  | [], _, _, h => by cases h
  | [_], _, _, h => by cases h
  | _ :: y :: _ :: _, _, _, h => by cases h
theorem nWrite_some : ∀ {args : List V} {h : Hp} {z : RES}, nWrite args h = some z → ∃ x a n0 r q i m D d p n k, args = [x, .s (.i .i64 (.ofNat a)), .s (.i .u64 n0)] ∧ kn n0 = true ∧ MemG h x a r q i m D d p n k ∧ z = (.s (.i .i64 0), h.set q (.w .u64 m D (wst d i n0)))
  | [x, y, v], h, z, hz => by
    obtain ⟨kd, n, hy, h1⟩ := asI_some (show asI y _ = some z from hz)
    cases n with
    | negSucc _ => cases h1
    | ofNat a =>
      obtain ⟨h2, h3⟩ := onB_t (show onB (kEq kd .i64) _ none = some z from h1)
      obtain ⟨kz, n0, hv, h4⟩ := asI_some h3
      obtain ⟨h5, h6⟩ := onB_t h4
      obtain ⟨h7, h8⟩ := onB_t h6
      obtain ⟨r, q, i, m, D, d, p, n, k, G, h9⟩ := memG_some h8
      rw [wsK_eq, Hp.setK_eq] at h9
      rw [hy, hv, kEq_t h2, kEq_t h5]
      exact ⟨x, a, n0, r, q, i, m, D, d, p, n, k, rfl, h7, G, (Option.some.inj h9).symm⟩
  | [], _, _, h => by cases h
  | [_], _, _, h => by cases h
  | [_, _], _, _, h => by cases h
  | _ :: _ :: _ :: _ :: _, _, _, h => by cases h
theorem MemG.rq {e : Env} {h : Hp} {w : World} {x : V} {a : Nat} {r q : Pth} {i m D : Nat} {d : Wt} {p n k : Nat} (G : MemG h x a r q i m D d p n k) (H : Rel e h w) (hx : x.rf (Pth.ok h.n.n) = true) : r.n < h.n.n ∧ q.n < h.n.n := by
  rw [G.hx] at hx
  have hr := Pth.ok_iff.1 hx
  have := H.val r hr
  rw [G.hr] at this
  exact ⟨hr, Pth.ok_iff.1 this⟩
inductive MT where
  | e
  | nd (k : Nat) (A : List V) (v : V) (l r : MT)
noncomputable def hI (n : Int) (acc : Nat) : Nat := Int.rec (fun m => Nat.add (Nat.mul acc 1000003) m) (fun m => Nat.add (Nat.mul acc 1000033) m) n
noncomputable def hS (s : S) (acc : Nat) : Nat := S.rec (fun q => Bool.rec (Nat.mul acc 3) (Nat.mul acc 5) q) (fun _ n => hI n acc) (fun _ _ => acc) acc (fun _ _ _ _ => acc) acc (fun _ _ => acc) (fun _ _ => acc) (fun _ _ _ _ => acc) acc (fun _ => acc) (fun _ => acc) acc (fun _ => acc) acc (fun _ _ => acc) s
noncomputable def hSs (l : List S) : Nat → Nat := List.rec (motive := fun _ => Nat → Nat) (fun acc => acc) (fun s _ ih acc => ih (hS s acc)) l
noncomputable def hV (v : V) (acc : Nat) : Nat := V.rec (fun s => hS s acc) (fun l => hSs l acc) (fun _ => acc) acc v
noncomputable def hVs (l : List V) : Nat → Nat := List.rec (motive := fun _ => Nat → Nat) (fun acc => acc) (fun s _ ih acc => ih (hV s acc)) l
noncomputable def lkM (args : List V) (h : Hp) (n : Nat) (t : MT) : Ans := MT.rec none (fun k A v _ _ il ir => Bool.rec (Bool.rec ir il (Nat.blt n k)) (onB (vsEq A args) (some (v, h)) none) (Nat.beq n k)) t
noncomputable def pmT (t : MT) : NF := fun args h => lkM args h (hVs args 1) t
noncomputable def MT.all (f : List V × V → Bool) (t : MT) : Bool := MT.rec true (fun _ A v _ _ il ir => and (f (A, v)) (and il ir)) t
theorem lkM_some {args : List V} {h : Hp} {n : Nat} {f : List V × V → Bool} (t : MT) : ∀ {z : RES}, lkM args h n t = some z → t.all f = true → ∃ v, f (args, v) = true ∧ z = (v, h) := by
  induction t with
  | e => intro z hz; cases hz
  | nd k A v l r il ir =>
    intro z hz ha
    obtain ⟨a1, a2⟩ := and_t (show and (f (A, v)) (and (l.all f) (r.all f)) = true from ha)
    obtain ⟨a2, a3⟩ := and_t a2
    have hz2 : (Bool.rec (Bool.rec (lkM args h n r) (lkM args h n l) (Nat.blt n k)) (onB (vsEq A args) (some (v, h)) none) (Nat.beq n k) : Ans) = some z := hz
    clear hz
    generalize Nat.beq n k = c at hz2
    generalize Nat.blt n k = c2 at hz2
    cases c with
    | true =>
      obtain ⟨h1, h2⟩ := onB_t (show onB (vsEq A args) (some (v, h)) none = some z from hz2)
      rw [vsEq_eq h1] at a1
      exact ⟨v, a1, (Option.some.inj h2).symm⟩
    | false =>
      cases c2 with
      | true => exact il hz2 a2
      | false => exact ir hz2 a3
theorem pmT_ok {Y : Lay} {P : Program} {κ : KP} {cal : Cal} (hY : ∀ g p, Y.g = some (g, p) → p = .z) (HC : CalOk Y P κ cal) {f : Pth} {t : MT} (h : t.all (pmB cal f) = true) : NfOk Y P κ f.n (pmT t) := fun args h0 r hr e w xs hκ hR hG hf hx => by
  obtain ⟨v, h1, rfl⟩ := lkM_some t hr h
  exact pm_core hY HC h1 hκ hR hG hx
noncomputable def bRf (f : Pth → Bool) (b : B) : Bool := B.rec true (fun cs => allF (S.rf f) cs) (fun cs => allF (S.rf f) cs) (fun cs _ _ => allF (S.rf f) cs) (fun _ _ _ d => d.kns) (fun es _ => allF (fun x => x.1.rk f && x.2.1.rk f) es) (fun es => allF (fun x => x.1.rk f && x.2.rk f) es) (fun m _ _ _ => Option.rec true f m) (fun _ _ _ _ _ _ => false) true (fun s => s.rf f) (fun _ => true) b
theorem bRf_rf {f : Pth → Bool} {b : B} (h : bRf f b = true) : b.rf f = true := by
  cases b with
  | dd => rfl
  | ro cs => show cs.all _ = true; rw [← allF_eq]; exact h
  | c cs => show cs.all _ = true; rw [← allF_eq]; exact h
  | gr cs m es => show cs.all _ = true; rw [← allF_eq]; exact h
  | w k m D d => exact h
  | mp es ck => show es.all _ = true; rw [← allF_eq]; exact h
  | ml es => show es.all _ = true; rw [← allF_eq]; exact h
  | it m a b c => cases m <;> exact h
  | lp => cases h
  | dq => rfl
  | cu s => exact h
  | rb n => rfl
noncomputable def n8a {α : Type} (f : Nat → α → Bool) (w i : Nat) (a : N8 α) : Bool :=
  N8.casesOn a fun a0 a1 a2 a3 a4 a5 a6 a7 => and (f i a0) (and (f (Nat.add i w) a1) (and (f (Nat.add i (Nat.mul 2 w)) a2) (and (f (Nat.add i (Nat.mul 3 w)) a3) (and (f (Nat.add i (Nat.mul 4 w)) a4) (and (f (Nat.add i (Nat.mul 5 w)) a5) (and (f (Nat.add i (Nat.mul 6 w)) a6) (f (Nat.add i (Nat.mul 7 w)) a7)))))))
theorem n8a_at {α : Type} {f : Nat → α → Bool} {w i : Nat} {a : N8 α} (h : n8a f w i a = true) (j : D8) : f (i + j.v * w) (a.g j) = true := by
  obtain ⟨a0, a1, a2, a3, a4, a5, a6, a7⟩ := a
  obtain ⟨h0, h⟩ := and_t h
  obtain ⟨h1, h⟩ := and_t h
  obtain ⟨h2, h⟩ := and_t h
  obtain ⟨h3, h⟩ := and_t h
  obtain ⟨h4, h⟩ := and_t h
  obtain ⟨h5, h⟩ := and_t h
  obtain ⟨h6, h7⟩ := and_t h
  cases j with
  | a => show f (i + 0 * w) a0 = true; rw [Nat.zero_mul]; exact h0
  | b => show f (i + 1 * w) a1 = true; rw [Nat.one_mul]; exact h1
  | c => exact h2
  | d => exact h3
  | e => exact h4
  | f => exact h5
  | g => exact h6
  | h => exact h7
noncomputable def blB (m : Nat) (f : Nat → B → Bool) (a : Tr B) : Bool := Tr.rec (fun s t _ =>
  and (Nat.ble m 576) (and (n8a (fun i x => pastB m i (n8a (fun i x => pastB m i (f i x)) 1 i x)) 8 0 s) (pastB m 64 (n8a (fun i x => pastB m i (n8a (fun i x => pastB m i (n8a (fun i x => pastB m i (f i x)) 1 i x)) 8 i x)) 64 64 t)))) a
theorem blB_at {m : Nat} {f : Nat → B → Bool} {a : Tr B} (h : blB m f a = true) (p : Pth) (hp : p.n < m) : f p.n (gt .dd p a) = true := by
  obtain ⟨s, t, o⟩ := a
  obtain ⟨h1, h⟩ := and_t h
  obtain ⟨h2, h3⟩ := and_t h
  have h1 := nat_le h1
  cases p with
  | s i j =>
    have hn := Pth.n_s i j
    have k1 := pastB_t (n8a_at h2 i) (by omega)
    have k2 := pastB_t (n8a_at k1 j) (by omega)
    rw [hn, show 8 * i.v + j.v = 0 + i.v * 8 + j.v * 1 by omega]
    exact k2
  | t i j k =>
    have hn := Pth.n_t i j k
    have k1 := pastB_t (n8a_at (pastB_t h3 (by omega)) i) (by omega)
    have k2 := pastB_t (n8a_at k1 j) (by omega)
    have k3 := pastB_t (n8a_at k2 k) (by omega)
    rw [hn, show 64 + (64 * i.v + (8 * j.v + k.v)) = 64 + i.v * 64 + j.v * 8 + k.v * 1 by omega]
    exact k3
  | o n => have := Pth.n_o n; omega
noncomputable def escM (m er eq r : Nat) (q : Pth) : Bool := and (Nat.blt q.n m) (or (Nat.ble q.n r) (and (Nat.ble er r) (Nat.ble q.n eq)))
theorem Step.trim {e e' : Env} {h h' : Hp} {w w' : World} (T : Step e h w e' h' w') {er eq : Nat} (hs : blB h.n.n (fun r b => bRf (escM h.n.n er eq r) b) h'.b = true) : Step e h w e' { h' with n := h.n, er := er, eq := eq } w' := by
  have hlt : ∀ r : Pth, r.n < h.n.n → r.n < h'.n.n := fun r hr => by have := T.le; omega
  have hb : ∀ r : Pth, r.n < h.n.n → (h'.at r).rf (escM h.n.n er eq r.n) = true := fun r hr => bRf_rf (blB_at hs r hr)
  refine ⟨⟨fun r hr => T.rel.ok r (hlt r hr), fun r r' hr hr' => T.rel.sep r r' (hlt r hr) (hlt r' hr'), fun r hr => ?_, fun r hr => ?_⟩, T.fz, T.ch, T.agr, Nat.le_refl _, T.os, T.tape, T.output, T.size, T.keep, fun r hr => T.mine r (hlt r hr), fun r hr => T.nd r (hlt r hr)⟩
  · exact B.rf_mono (fun p hp => (and_t hp).1) (hb r hr)
  · exact B.rf_mono (fun p hp => (and_t hp).2) (hb r hr)
noncomputable def trimC (cal : Cal) : Cal := fun s args h => onO (cal s args h) fun r => Prod.rec (fun v h' => fN h.n.n fun m => Hp.rec (fun _ n er eq _ _ _ => Hp.rec (fun b _ _ _ fz df ch =>
  onB (and (v.ok m) (blB m (fun r b => bRf (escM m er eq r) b) b)) (some (v, Hp.mk b n er eq fz df ch)) none) h') h) r
theorem trimC_ok {Y : Lay} {P : Program} {κ : KP} {cal : Cal} (HC : CalOk Y P κ cal) : CalOk Y P κ (trimC cal) := fun s args h z hz e w xs hκ hR hG hs hf hx => by
  obtain ⟨⟨v, h'⟩, c1, c2⟩ := onO_some hz
  have hC := HC s args h _ c1 e w xs hκ hR hG hs hf hx
  have c3 : fN h.n.n (fun m => onB (and (v.ok m) (blB m (fun r b => bRf (escM m h.er h.eq r) b) h'.b)) (some (v, { h' with n := h.n, er := h.er, eq := h.eq })) none) = some z := c2
  rw [fN_eq] at c3
  obtain ⟨c4, c5⟩ := onB_t c3
  obtain ⟨c6, c7⟩ := and_t c4
  cases c5
  refine hC.mono fun x w' ⟨e', i1, i2, i3, i4⟩ => ⟨e', i1.trim c7, i2, i3, c6⟩
end Go.E
