/- A part of the proof of the claim that the last text of this folder states. -/
import Derived.Test.YtebgbhgehnpahaaGreatDoorE12
namespace Go.E
set_option linter.all false
def heap0 (tab : List S) : Hp := ⟨st .dd .z (.ro tab) (.e .dd), .s .a .b, 1000000000, 0, 0, [], false⟩
def env0 (Y : Lay) (P : Program) (g : Nat) (ζ : (Nat → Int) × Nat) : Env := { σ := fun _ => (g, 0), δ := fun _ => 0, ρ := ζ.1, β := ζ.2, κ := kapE Y P }
section
variable {Y : Lay} {P : Program} {ζ : (Nat → Int) × Nat} {prog : Tr FJ} {nat : Cal}
theorem heap0_at {tab : List S} (r : Pth) (hr : r.n < (heap0 tab).n.n) : r = .z ∧ (heap0 tab).at r = .ro tab := by
  have : r.n < 1 := hr
  have h0 : r.n = Pth.z.n := by show r.n = 0; omega
  have := Pth.inj h0
  subst this
  exact ⟨rfl, rfl⟩
theorem rel0 {tab : List S} {g : Nat} {W : World} (hlt : g < W.heap.size) (hc : ∀ (i : Nat) s, tab[i]? = some s → W.cell? ⟨g, i, none⟩ = some (s.tr (env0 Y P g ζ))) (hf : tab.all (S.rf noR) = true) : Rel (env0 Y P g ζ) (heap0 tab) W := by
  refine ⟨fun r hr => ?_, fun r r' hr hr' hne hw hd => ?_, fun r hr => ?_, fun r hr => ?_⟩
  · obtain ⟨rfl, h⟩ := heap0_at r hr
    rw [h]
    exact ⟨hlt, fun i s hs => by rw [← hc i s hs]; simp [adr, env0]⟩
  · rw [(heap0_at r hr).2] at hw; cases hw
  · rw [(heap0_at r hr).2]; exact ss_mono (fun p hp => by cases hp) hf
  · rw [(heap0_at r hr).2]; exact ss_mono (fun p hp => by cases hp) hf
theorem law_run (hm : P.follows .mixedOrders = true) (HP : ProgOk Y P prog) (HN : CalOk Y P (kp Y P ζ) nat) {g : Nat} (hY : Y.g = some (g, .z)) {tab : List S} {W : World} (hlt : g < W.heap.size) (hc : ∀ (i : Nat) s, tab[i]? = some s → W.cell? ⟨g, i, none⟩ = some (s.tr (env0 Y P g ζ))) (hf : tab.all (S.rf noR) = true)
    {f : Pth} {A : List V} {n : Nat} {v : V} (hr : valB (calM prog nat n (.fn f []) A (heap0 tab)) v = true) {args : Array Value} (hA : Iss (env0 Y P g ζ) A args.toList) (hAf : A.all (V.rf noR) = true) (hv : v.rf noR = true) (hu : v ≠ .u) (hnu : v.nU = true) :
    Calls P f.n args W fun e W' => e = .returned (v.tr (env0 Y P g ζ)) ∧ Still W W' := by
  obtain ⟨h', hr⟩ := valB_out hr
  have hR := rel0 (Y := Y) (P := P) (ζ := ζ) hlt hc hf
  have hC := calM_ok hm HP HN n (.fn f []) A (heap0 tab) _ hr (env0 Y P g ζ) W args.toList ⟨rfl, rfl, rfl⟩ hR (fun g' p hg => by
    rw [hY] at hg; cases hg; exact ⟨rfl, rfl⟩) rfl (by
      simp only [List.all_eq_true] at hAf ⊢
      exact fun x hx => V.rf_mono (fun p hp => by cases hp) (hAf x hx)) hA
  have hC := hC.2
  simp only [List.map_nil, Array.toArray_toList] at hC
  have e1 : args ++ [].toArray = args := by simp
  rw [e1] at hC
  refine hC.mono ?_
  rintro en W' ⟨x, rfl, e', i1, _, i3, _⟩
  have AF : AgrF noR e' (env0 Y P g ζ) := ⟨fun r hr => (by cases hr), fun r hr => (by cases hr), i1.agr.ρ.symm, i1.agr.β.symm⟩
  have hx : x = v.tr (env0 Y P g ζ) := by
    rcases AF.isu hv i3 with h | h
    · exact absurd h hu
    · exact h.eq hnu
  exact ⟨by rw [hx], i1.os, i1.output, fun b hb => i1.keep b hb fun r hr hw => by rw [(heap0_at r hr).2] at hw; cases hw⟩
def symA : List IntKind → Nat → List V
  | [], _ => []
  | k :: ks, j => .s (.i k ((symN + j : Nat) : Int)) :: symA ks (j + 1)
def intsOf : List Value → List Int
  | [] => []
  | .int _ n :: vs => n :: intsOf vs
  | _ :: vs => 0 :: intsOf vs
theorem symA_is {g : Nat} {ρ : Nat → Int} {β : Nat} : ∀ {ks : List IntKind} {vs : List Value} {j : Nat}, areI ks vs → (∀ i n, (intsOf vs)[i]? = some n → ρ (j + i) = n) → Iss (env0 Y P g (ρ, β)) (symA ks j) vs ∧ (symA ks j).all (V.rf noR) = true
  | [], [], _, _, _ => ⟨.nil, rfl⟩
  | [], _ :: _, _, h, _ => h.elim
  | _ :: _, [], _, h, _ => h.elim
  | k :: ks, v :: vs, j, h, hρ => by
    obtain ⟨⟨n, rfl, hw⟩, h2⟩ := h
    obtain ⟨i1, i2⟩ := symA_is (g := g) (ρ := ρ) (β := β) (j := j + 1) h2 (fun i m hm => by
      have := hρ (i + 1) m (by simpa [intsOf] using hm)
      rw [← this]; congr 1; omega)
    refine ⟨.cons (.inr (.inl ?_)) i1, ?_⟩
    · have h0 := hρ 0 n (by simp [intsOf])
      simp only [V.tr, S.tr, vl, env0]
      rw [if_pos (by unfold symN; omega), if_pos (by omega)]
      have : ((symN + j : Nat) : Int).toNat - symN = j + 0 := by omega
      rw [this, h0]
    · simp only [symA, List.all_cons, Bool.and_eq_true]; exact ⟨rfl, i2⟩
noncomputable def memS (s0 : S) (A : List V) (H : Hp) (v : V) (H' : Hp) : Cal := fun s args h =>
  onB (sEq s0 s) (onB (vsEq A args) (onB (simB H h) (Hp.rec (fun _ _ _ _ fz df ch => Hp.rec (fun b n er eq _ _ _ => some (v, Hp.mk b n er eq fz df ch)) H') h) none) none) none
theorem memS_ok {κ : KP} {cal : Cal} (HC : CalOk Y P κ cal) {s0 : S} {A : List V} {H : Hp} {v : V} {H' : Hp} (hr : runB (cal s0 A H) v H' = true) : CalOk Y P κ (memS s0 A H v H') := fun s args h r h1 e w xs hκ hR hG hs hf hx => by
  obtain ⟨h2, hr2, S2⟩ := runB_out hr
  obtain ⟨c1, h3⟩ := onB_t (show onB (sEq s0 s) _ none = some r from h1)
  obtain ⟨c2, h4⟩ := onB_t h3
  obtain ⟨c3, h5⟩ := onB_t h4
  clear h1 h3 h4
  have c1 := sEq_eq c1
  have c2 := vsEq_eq c2
  have S := simB_sim c3
  subst c1
  subst c2
  obtain ⟨b, n, er, eq, fz, df, ch⟩ := h
  obtain ⟨b', n', er', eq', fz', df', ch'⟩ := H'
  cases h5
  have hn : (Hp.mk b n er eq fz df ch).n = H.n := S.n
  have hC := HC _ _ _ _ hr2 e w xs hκ (hR.sim S.symm) (by rw [← hn]; exact hG) (by rw [← hn]; exact hs) (by rw [← hn]; exact hf) hx
  refine hC.mono fun x w' ⟨e', i1, i2, i3, i4⟩ => ⟨e', i1.sim S ⟨S2.symm.n, S2.symm.er, S2.symm.eq, fun p hp => S2.symm.at_ p hp⟩ rfl rfl, rfl, i3, ?_⟩
  have : h2.n = n' := S2.n
  rw [← this]; exact i4
def hset (h : Hp) (l : List (Pth × B)) (n : Pth) (er eq : Nat) : Hp := ⟨l.foldl (fun b x => st .dd x.1 x.2 b) h.b, n, er, eq, 0, [], false⟩
noncomputable def oraC (f : Pth) (A : List V) (v : V) : Cal := fun s args h => onB (sEq (.fn f []) s) (onB (vsEq A args) (some (v, h)) none) none
theorem Iss.eq {e : Env} : ∀ {A : List V} {xs : List Value}, Iss e A xs → (A.all fun v => match v with | .u => false | v => v.nU) = true → xs = A.map (V.tr e)
  | _, _, .nil, _ => rfl
  | _, _, @All2.cons _ _ _ v x l m h1 h2, h => by
    simp only [List.all_cons, Bool.and_eq_true] at h
    rw [Iss.eq h2 h.2, List.map_cons]
    congr 1
    rcases h1 with h1 | h1
    · subst h1; cases h.1
    · refine h1.eq ?_
      cases v <;> first | exact h.1 | (cases h.1; done)
theorem oraC_ok {κ : KP} {f : Pth} {A : List V} {v : V} (hA : (A.all fun v => match v with | .u => false | v => v.nU) = true) (hv : v.rf noR = true) (hf : FnOk P f.n)
    (H : ∀ (e : Env) (w : World), EK e κ → Calls P f.n (A.map (V.tr e)).toArray w fun en w' => en = .returned (v.tr e) ∧ w' = w) : CalOk Y P κ (oraC f A v) := fun s args h r h1 e w xs hκ hR hG hs hfa hx => by
  obtain ⟨c1, h2⟩ := onB_t (show onB (sEq (.fn f []) s) _ none = some r from h1)
  obtain ⟨c2, h3⟩ := onB_t h2
  clear h1 h2
  have c1 := sEq_eq c1
  have c2 := vsEq_eq c2
  subst c1
  subst c2
  cases h3
  rw [hx.eq hA]
  refine ⟨hf, ?_⟩
  have e1 : (A.map (V.tr e)).toArray ++ (([] : List (Pth × Nat)).map fun x => Value.pointer (some (adr e x.1 x.2))).toArray = (A.map (V.tr e)).toArray := by simp
  rw [e1]
  refine (H e w hκ).mono ?_
  rintro en w' ⟨rfl, rfl⟩
  exact ⟨_, rfl, e, .refl hR, rfl, .inr (.inl rfl), V.rf_mono (fun p hp => by cases hp) hv⟩
end
end Go.E
