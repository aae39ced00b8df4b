/- A part of the proof of the claim that the last text of this folder states. -/
import Derived.Test.YtebgbhgehnpahaaGreatDoorP10
namespace Go.E
set_option linter.all false
noncomputable def wsum (l : List (Nat × Nat)) : Nat := List.rec 0 (fun x _ ih => Prod.rec (fun i n => Nat.add (Nat.shiftLeft n (Nat.mul 64 i)) ih) x) l
noncomputable def W (l : List (Nat × Nat)) (o : List (Nat × Int)) : Wt := .mk (wsum l) o
noncomputable def wup (t : Wt) (l : List (Nat × Int)) : Wt := List.rec (motive := fun _ => Wt → Wt) (fun t => t) (fun x _ ih t => Prod.rec (fun i n => ih (wst t i n)) x) l t
noncomputable def hmk (l : List (Pth × B)) (n : Pth) (er eq : Nat) : Hp := hset ⟨Tr.e .dd, .z, 0, 0, 0, [], false⟩ l n er eq
noncomputable def wB (h : Hp) (p : Pth) (l : List (Nat × Int)) : B := B.rec .dd (fun _ => .dd) (fun _ => .dd) (fun _ _ _ => .dd) (fun k m D d => .w k m D (wup d l)) (fun _ _ => .dd) (fun _ => .dd) (fun _ _ _ _ => .dd) (fun _ _ _ _ _ _ => .dd) .dd (fun _ => .dd) (fun _ => .dd) (h.at p)
noncomputable def Tt (l : List (Pth × V)) : T := l.foldl (fun t x => st vu x.1 x.2 t) tE
abbrev NF := List V → Hp → Ans
noncomputable def noN : NF := fun _ _ => none
noncomputable def gtC (p : Pth) : Tr NF → NF := Pth.rec (motive := fun _ => Tr NF → NF) (fun i j t => N8.g j (N8.g i t.s)) (fun i j k t => N8.g k (N8.g j (N8.g i t.t))) (fun n t => lkF noN n t.o) p
noncomputable def natC (tbl : Tr NF) : Cal := fun s args h =>
  S.rec (fun _ => none) (fun _ _ => none) (fun _ _ => none) none (fun _ _ _ _ => none) none (fun _ _ => none) (fun f cs => List.rec (gtC f tbl args h) (fun _ _ _ => none) cs) (fun _ _ _ _ => none) none (fun _ => none) (fun _ => none) none (fun _ => none) none (fun _ _ => none) s
noncomputable def orN (a b : NF) : NF := fun args h => Option.rec (b args h) (fun r => some r) (a args h)
section
variable {Y : Lay} {P : Program} {κ : KP}
def NfOk (Y : Lay) (P : Program) (κ : KP) (f : Nat) (c : NF) : Prop :=
  ∀ args h r, c args h = some r → ∀ e w xs, EK e κ → Rel e h w → Gl Y e (Pth.ok h.n.n) → args.all (V.rf (Pth.ok h.n.n)) = true → Iss e args xs → FnOk P f ∧ Calls P f xs.toArray w (ret (Post e h w r))
theorem noN_ok (f : Nat) : NfOk Y P κ f noN := fun _ _ _ h => by cases h
theorem orN_ok {f : Nat} {a b : NF} (ha : NfOk Y P κ f a) (hb : NfOk Y P κ f b) : NfOk Y P κ f (orN a b) := fun args h r hr => by
  have hr : (Option.rec (b args h) (fun r => some r) (a args h) : Ans) = some r := hr
  cases hn : a args h with
  | none => rw [hn] at hr; exact hb args h r hr
  | some r' => rw [hn] at hr; cases hr; exact ha args h _ hn
theorem natC_ok {tbl : Tr NF} (H : allT (fun p c => NfOk Y P κ p.n c) tbl) : CalOk Y P κ (natC tbl) := fun s args h r h1 e w xs hκ hR hG hs hf hx => by
  cases s <;> first | (cases h1; done) | skip
  rename_i f cs
  cases cs with
  | cons _ _ => cases h1
  | nil =>
    obtain ⟨i1, i2⟩ := allT_gt (d := noN) H (fun p => noN_ok p.n) f args h r (show gtC f tbl args h = some r from h1) e w xs hκ hR hG hf hx
    refine ⟨i1, ?_⟩
    have e1 : xs.toArray ++ (([] : List (Pth × Nat)).map fun x => Value.pointer (some (adr e x.1 x.2))).toArray = xs.toArray := by simp
    rw [e1]; exact i2
theorem NfOk.of {f : Pth} {c : NF} {cal : Cal} (HC : CalOk Y P κ cal) (h : ∀ args h r, c args h = some r → cal (.fn f []) args h = some r) : NfOk Y P κ f.n c := fun args h0 r hr e w xs hκ hR hG hf hx => by
  obtain ⟨i1, i2⟩ := HC (.fn f []) args h0 r (h args h0 r hr) e w xs hκ hR hG rfl hf hx
  have e1 : xs.toArray ++ (([] : List (Pth × Nat)).map fun x => Value.pointer (some (adr e x.1 x.2))).toArray = xs.toArray := by simp
  rw [e1] at i2
  exact ⟨i1, i2⟩
end
theorem pm_core {Y : Lay} {P : Program} {κ : KP} {cal : Cal} (hY : ∀ g p, Y.g = some (g, p) → p = .z) (HC : CalOk Y P κ cal) {f : Pth} {args : List V} {v : V} (h3 : pmB cal f (args, v) = true)
    {e : Env} {h0 : Hp} {w : World} {xs : List Value} (hκ : EK e κ) (hR : Rel e h0 w) (hG : Gl Y e (Pth.ok h0.n.n)) (hx : Iss e args xs) : FnOk P f.n ∧ Calls P f.n xs.toArray w (ret (Post e h0 w (v, h0))) := by
  obtain ⟨c1, c2⟩ := and_t (show and (args.all (V.rf noR)) (and (v.rf noR) (valB (cal (.fn f []) args hD) v)) = true from h3)
  obtain ⟨c2, c3⟩ := and_t c2
  obtain ⟨h4, hr⟩ := valB_out c3
  have hR0 : Rel e hD w := by
    exact ⟨fun r _ => (by rw [hD_at]; trivial), fun r r' _ _ _ hw => (by rw [hD_at] at hw; cases hw), fun r _ => (by rw [hD_at]; rfl), fun r _ => (by rw [hD_at]; rfl)⟩
  have hG0 : Gl Y e (Pth.ok hD.n.n) := fun g p hg => by
    refine ⟨?_, (hG g p hg).2⟩
    rw [hY g p hg]; rfl
  obtain ⟨i0, hC⟩ := HC (.fn f []) _ _ _ hr e w xs hκ hR0 hG0 rfl (by
    simp only [List.all_eq_true] at c1 ⊢
    exact fun x hx => V.rf_mono (fun p hp => by cases hp) (c1 x hx)) hx
  have e1 : xs.toArray ++ (([] : List (Pth × Nat)).map fun x => Value.pointer (some (adr e x.1 x.2))).toArray = xs.toArray := by simp
  rw [e1] at hC
  refine ⟨i0, hC.mono ?_⟩
  rintro en w' ⟨x, hx1, e', i1, i2, i3, i4⟩
  refine ⟨x, hx1, ?_⟩
  have hk : ∀ b, b < w.heap.size → w'.heap[b]? = w.heap[b]? := fun b hb => i1.keep b hb fun r _ hw => (by rw [hD_at] at hw; cases hw)
  have S : Step e h0 w e h0 w' := ⟨⟨fun r hr => (hR.ok r hr).move (Agr.refl h0.n.n e) hr (hR.val r hr) i1.size fun hd => hk _ ((hR.ok r hr).lt hd), hR.sep, hR.val, hR.esc⟩, rfl, rfl, Agr.refl _ _, Nat.le_refl _, i1.os, i1.tape, i1.output, i1.size, fun b hb _ => hk b hb, fun r hr hw => .inl ⟨r, hr, hw, rfl⟩, fun r hr hw => .inl ⟨r, hr, hw, rfl⟩⟩
  have AF : AgrF noR e' e := ⟨fun r hr => (by cases hr), fun r hr => (by cases hr), i1.agr.ρ.symm, i1.agr.β.symm⟩
  exact ⟨e, S, rfl, AF.isu c2 i3, V.rf_mono (fun p hp => by cases hp) c2⟩
section
noncomputable def cuG (b : B) (c : S → Ans) : Ans := B.rec none (fun _ => none) (fun _ => none) (fun _ _ _ => none) (fun _ _ _ _ => none) (fun _ _ => none) (fun _ => none) (fun _ _ _ _ => none) (fun _ _ _ _ _ _ => none) none c (fun _ => none) b
noncomputable def wG (b : B) (c : IntKind → Nat → Nat → Wt → Ans) : Ans := B.rec none (fun _ => none) (fun _ => none) (fun _ _ _ => none) c (fun _ _ => none) (fun _ => none) (fun _ _ _ _ => none) (fun _ _ _ _ _ _ => none) none (fun _ => none) (fun _ => none) b
noncomputable def slG (s : S) (c : Pth → Nat → Nat → Nat → Ans) : Ans := S.rec (fun _ => none) (fun _ _ => none) (fun _ _ => none) none c none (fun _ _ => none) (fun _ _ => none) (fun _ _ _ _ => none) none (fun _ => none) (fun _ => none) none (fun _ => none) none (fun _ _ => none) s
noncomputable def memG (h : Hp) (x : V) (a : Nat) (c : Pth → Pth → Nat → Nat → Nat → Wt → Ans) : Ans :=
  asP x fun r o => onB (Nat.beq o 0) (cuG (h.gb r) fun s => slG s fun q p n k => onB (Nat.ble n k) (onB (Nat.blt k 1099511627776) (onB (Nat.blt a n) (wG (h.gb q) fun kd m D d => onB (kEq kd .u64) (onB (Nat.blt (Nat.add p a) m) (c r q (Nat.add p a) m D d) none) none) none) none) none) none
theorem cuG_some {b : B} {c : S → Ans} {r : RES} (h : cuG b c = some r) : ∃ s, b = .cu s ∧ c s = some r := by
  cases b <;> first | exact ⟨_, rfl, h⟩ | cases h
theorem wG_some {b : B} {c : IntKind → Nat → Nat → Wt → Ans} {r : RES} (h : wG b c = some r) : ∃ k m D d, b = .w k m D d ∧ c k m D d = some r := by
  cases b <;> first | exact ⟨_, _, _, _, rfl, h⟩ | cases h
theorem slG_some {s : S} {c : Pth → Nat → Nat → Nat → Ans} {r : RES} (h : slG s c = some r) : ∃ q p n k, s = .sl q p n k ∧ c q p n k = some r := by
  cases s <;> first | exact ⟨_, _, _, _, rfl, h⟩ | cases h
structure MemG (h : Hp) (x : V) (a : Nat) (r q : Pth) (i m D : Nat) (d : Wt) (p n k : Nat) : Prop where
  hx : x = .s (.p r 0)
  hr : h.at r = .cu (.sl q p n k)
  hq : h.at q = .w .u64 m D d
  nk : n ≤ k
  kG : k < 1099511627776
  an : a < n
  hi : i = p + a
  im : i < m
theorem memG_some {h : Hp} {x : V} {a : Nat} {c : Pth → Pth → Nat → Nat → Nat → Wt → Ans} {z : RES} (H : memG h x a c = some z) : ∃ r q i m D d p n k, MemG h x a r q i m D d p n k ∧ c r q i m D d = some z := by
  obtain ⟨r, o, h1, H1⟩ := asP_some H
  obtain ⟨h2, H2⟩ := onB_t H1
  obtain ⟨s, h3, H3⟩ := cuG_some H2
  obtain ⟨q, p, n, k, h4, H4⟩ := slG_some H3
  obtain ⟨h5, H5⟩ := onB_t H4
  obtain ⟨h6, H6⟩ := onB_t H5
  obtain ⟨h7, H7⟩ := onB_t H6
  obtain ⟨kd, m, D, d, h8, H8⟩ := wG_some H7
  obtain ⟨h9, H9⟩ := onB_t H8
  obtain ⟨h10, H10⟩ := onB_t H9
  have := nat_eq h2
  subst this
  have := kEq_t h9
  subst this
  subst h4
  exact ⟨r, q, p + a, m, D, d, p, n, k, ⟨h1, by rw [← Hp.gb_eq]; exact h3, by rw [← Hp.gb_eq]; exact h8, nat_le h5, nat_lt h6, nat_lt h7, rfl, nat_lt h10⟩, H10⟩
noncomputable def nRead : NF := fun args h => List.rec none (fun x args _ => List.rec none (fun y args _ => List.rec (asI y fun kd a => Int.rec (fun a => onB (kEq kd .i64) (memG h x a fun _ _ i _ _ d => fI (wgF d i) fun n => some (.tup [.s (.i .u64 n), .s (.i .i64 0)], h)) none) (fun _ => none) a) (fun _ _ _ => none) args) args) args
noncomputable def nWrite : NF := fun args h => List.rec none (fun x args _ => List.rec none (fun y args _ => List.rec none (fun z args _ => List.rec (asI y fun kd a => Int.rec (fun a => onB (kEq kd .i64) (asI z fun kz n => onB (kEq kz .u64) (onB (kn n) (memG h x a fun _ q i m D d => wsK d i n fun d => h.setK q (.w .u64 m D d) fun h => some (.s (.i .i64 0), h)) none) none) none) (fun _ => none) a) (fun _ _ _ => none) args) args) args) args
end
section
variable {e : Env} {h : Hp} {w : World}
theorem cu_step (H : Rel e h w) {q : Pth} {s : S} (hq : q.n < h.n.n) (hat : h.at q = .cu s) (m : Int) : Step e h w e h (w.setCell (adr e q 1) (.int .i64 m)) := by
  have g1 := H.ok q hq
  rw [hat] at g1
  obtain ⟨g1, g3, ⟨n0, g4⟩, g5⟩ := g1
  have hne : adr e q 1 ≠ adr e q 0 := by simp [adr]
  have U : Step e h w e (h.set q (.cu s)) (w.setCell (adr e q 1) (.int .i64 m)) := by
    refine Step.upd H hq (by rw [hat]; rfl) ⟨by rw [World.size_setCell]; exact g1, ?_, ⟨m, World.cell?_setCell_same _ _ _ g4⟩, fun i hi => ?_⟩ (by rw [← hat]; exact H.val q hq) (by rw [← hat]; exact H.esc q hq)
      (fun b hb => Go.RowKit.Below.heap_setCell _ _ _ _ hb) (by rw [World.size_setCell]; exact Nat.le_refl _) rfl rfl rfl
    · rw [World.cell?_setCell_other _ _ _ _ hne]; exact g3
    · rw [World.frozen?_setCell]
      refine ⟨?_, (g5 i hi).2⟩
      by_cases hi1 : i = 1
      · subst hi1; rw [World.cell?_setCell_same _ _ _ g4]; rfl
      · rw [World.cell?_setCell_other _ _ _ _ (by simp only [adr, ne_eq, Addr.mk.injEq, not_and]; omega)]; exact (g5 i hi).1
  have hsame : ∀ p, (h.set q (.cu s)).at p = h.at p := fun p => by
    rw [Hp.at_set]; split
    · rename_i e; rw [e, hat]
    · rfl
  refine ⟨⟨fun p hp => ?_, fun p p' hp hp' hne => ?_, H.val, H.esc⟩, rfl, rfl, U.agr, Nat.le_refl _, U.os, U.tape, U.output, U.size, U.keep, fun p hp hw => ?_, fun p hp hw => ?_⟩
  · have := U.rel.ok p hp; rw [hsame] at this; exact this
  · have := U.rel.sep p p' hp hp' hne; rw [hsame, hsame] at this; exact this
  · have := U.mine p hp; rw [hsame] at this; exact this hw
  · have := U.nd p hp; rw [hsame] at this
    rcases this hw with ⟨q2, k1, k2, k3⟩ | k
    · exact .inl ⟨q2, k1, k2, k3⟩
    · exact .inr k
theorem MemG.out {x : V} {a : Nat} {r q : Pth} {i m D : Nat} {d : Wt} {p n k : Nat} (G : MemG h x a r q i m D d p n k) (H : Rel e h w) (hr : r.n < h.n.n) (hq : q.n < h.n.n) :
    w.cell? (adr e r 0) = some (.slice (some (adr e q p)) n k) ∧ (∃ s, w.cell? (adr e r 1) = some (.int .i64 s)) ∧ w.frozen? (adr e r 1) = false ∧ w.cell? (adr e q i) = some (.int .u64 (vl e (wg d i))) ∧ w.frozen? (adr e q i) = false ∧ (e.σ r).1 ≠ (e.σ q).1 ∧ kn (wg d i) = true := by
  have g1 := H.ok r hr
  rw [G.hr] at g1
  obtain ⟨g1, g3, g4, g5⟩ := g1
  have g2 := H.ok q hq
  rw [G.hq] at g2
  obtain ⟨j1, j2, j3, j4, j5⟩ := g2
  have hv := H.val q hq
  rw [G.hq] at hv
  refine ⟨?_, g4, (g5 1 (by omega)).2, j2 i G.im, (j3 i G.im).2, H.sep r q hr hq ?_ (by rw [G.hr]; rfl) (by rw [G.hq]; simp), kn_wg hv⟩
  · rw [g3]
    have : cpT e q k = k := by unfold cpT; rw [if_pos (by have := G.kG; unfold Go.E.G; omega)]
    simp only [S.tr, this]
  · intro h; have h1 := G.hr; have h2 := G.hq; rw [h, h2] at h1; cases h1
theorem w_step {q : Pth} {i m D : Nat} {d : Wt} (H : Rel e h w) (hq : q.n < h.n.n) (hat : h.at q = .w .u64 m D d) (him : i < m) {n : Int} (hn : kn n = true) : Step e h w e (h.set q (.w .u64 m D (wst d i n))) (w.setCell (adr e q i) (.int .u64 (vl e n))) := by
  have g2 := H.ok q hq
  rw [hat] at g2
  obtain ⟨j1, j2, j3, j4, j5⟩ := g2
  have hv := H.val q hq
  rw [hat] at hv
  have hk : (wst d i n).kns = true := kns_wst hv hn
  refine Step.upd H hq (by rw [hat]; rfl) ⟨by rw [World.size_setCell]; exact j1, fun j hj => ?_, fun j hj => ?_, wst_deep j4, j5⟩ hk hk
    (fun b hb => Go.RowKit.Below.heap_setCell _ _ _ _ hb) (by rw [World.size_setCell]; exact Nat.le_refl _) rfl rfl rfl
  · rw [wg_wst (n := D) n j4 (by omega) (by omega)]
    by_cases hji : j = i
    · rw [if_pos hji, hji, World.cell?_setCell_same _ _ _ (j2 i him)]
    · rw [if_neg hji, World.cell?_setCell_other _ _ _ _ (by simp only [adr, ne_eq, Addr.mk.injEq, not_and]; omega)]; exact j2 j hj
  · rw [World.frozen?_setCell]
    refine ⟨?_, (j3 j hj).2⟩
    by_cases hji : j = i
    · rw [hji, World.cell?_setCell_same _ _ _ (j2 i him)]; rfl
    · rw [World.cell?_setCell_other _ _ _ _ (by simp only [adr, ne_eq, Addr.mk.injEq, not_and]; omega)]; exact (j3 j hj).1
theorem cu_weak {e' : Env} {h' : Hp} {w' : World} (U : Step e h w e' h' w') {r : Pth} {s : S} {n : Int} (hr : r.n < h'.n.n) (hat : h'.at r = .c [s, .i .i64 n]) : Step e h w e' (h'.set r (.cu s)) w' := by
  have H := U.rel
  have g := H.ok r hr
  rw [hat] at g
  obtain ⟨g1, g2, g3⟩ := g
  have hv := H.val r hr
  have he := H.esc r hr
  rw [hat] at hv he
  have hrf : ∀ {f : Pth → Bool}, (B.c [s, .i .i64 n]).rf f = true → (B.cu s).rf f = true := fun {f} h => by
    have h : ([s, S.i .i64 n].all (S.rf f)) = true := h
    simp only [List.all_cons, Bool.and_eq_true] at h
    exact h.1
  have hok : OkB e' w' r (.cu s) := ⟨g1, g2 0 s rfl, ⟨_, g2 1 _ rfl⟩, g3⟩
  have hd : ∀ p, (h'.set r (.cu s)).at p ≠ .dd → h'.at p ≠ .dd := fun p hp => by
    rw [Hp.at_set] at hp
    split at hp
    · rename_i e; rw [e, hat]; simp
    · exact hp
  have hw : ∀ p, ((h'.set r (.cu s)).at p).rw = true → (h'.at p).rw = true := fun p hp => by
    rw [Hp.at_set] at hp
    split at hp
    · rename_i e; rw [e, hat]; rfl
    · exact hp
  refine ⟨⟨fun p hp => ?_, fun p p' hp hp' hne h1 h2 => H.sep p p' hp hp' hne (hw p h1) (hd p' h2), fun p hp => ?_, fun p hp => ?_⟩, U.fz, U.ch, U.agr, U.le, U.os, U.tape, U.output, U.size, U.keep, fun p hp h1 => U.mine p hp (hw p h1), fun p hp h1 => U.nd p hp (hd p h1)⟩
  · rw [Hp.at_set]
    split
    · rename_i e; rw [e]; exact hok
    · exact H.ok p hp
  · rw [Hp.at_set]
    split
    · exact hrf hv
    · exact H.val p hp
  · rw [Hp.at_set]
    split
    · rename_i e; rw [e]; exact hrf he
    · exact H.esc p hp
end
noncomputable def c2G (b : B) (c : S → Ans) : Ans := B.rec none (fun _ => none) (fun cs => List.rec none (fun x cs _ => List.rec none (fun y cs _ => List.rec (asI (.s y) fun k n => onB (kEq k .i64) (c x) none) (fun _ _ _ => none) cs) cs) cs) (fun _ _ _ => none) (fun _ _ _ _ => none) (fun _ _ => none) (fun _ => none) (fun _ _ _ _ => none) (fun _ _ _ _ _ _ => none) none (fun _ => none) (fun _ => none) b
noncomputable def nCu (cal : Cal) (f : Pth) : NF := fun args h => onO (cal (.fn f []) args h) fun q => Prod.rec (fun v h' => V.rec (fun _ => none) (fun _ => none) (fun cs => List.rec none (fun x _ _ => C.rec (fun s => asP (.s s) fun r _ => c2G (h'.gb r) fun s => h'.setK r (.cu s) fun h' => some (v, h')) (fun _ => none) x) cs) none v) q
theorem c2G_some {b : B} {c : S → Ans} {r : RES} (h : c2G b c = some r) : ∃ s n, b = .c [s, .i .i64 n] ∧ c s = some r := by
  cases b <;> first | (cases h; done) | skip
  rename_i cs
  match cs, h with
  | [x, y], h =>
    obtain ⟨k, n, h1, h2⟩ := asI_s (show asI (.s y) (fun k n => onB (kEq k .i64) (c x) none) = some r from h)
    obtain ⟨h3, h4⟩ := onB_t h2
    rw [h1, kEq_t h3]
    exact ⟨x, n, rfl, h4⟩
  | [], h => cases h
  | [_], h => cases h
  | _ :: _ :: _ :: _, h => cases h
theorem nCu_ok {Y : Lay} {P : Program} {κ : KP} {cal : Cal} (HC : CalOk Y P κ cal) (f : Pth) : NfOk Y P κ f.n (nCu cal f) := fun args h z hz e w xs hκ hR hG hf hx => by
  obtain ⟨⟨v, h'⟩, c1, c2⟩ := onO_some hz
  obtain ⟨i1, i2⟩ := HC (.fn f []) args h _ c1 e w xs hκ hR hG rfl hf hx
  have e1 : xs.toArray ++ (([] : List (Pth × Nat)).map fun x => Value.pointer (some (adr e x.1 x.2))).toArray = xs.toArray := by simp
  rw [e1] at i2
  refine ⟨i1, i2.mono ?_⟩
  rintro en w' ⟨x, hx1, e', U, j1, j2, j3⟩
  refine ⟨x, hx1, e', ?_⟩
  cases v with
  | s _ => cases c2
  | agg _ => cases c2
  | u => cases c2
  | tup cs => cases cs with
    | nil => cases c2
    | cons y cs => cases y with
      | agg _ => cases c2
      | s s =>
        obtain ⟨r, o, c3, c4⟩ := asP_some (show asP (.s s) (fun r _ => c2G (h'.gb r) fun s' => h'.setK r (.cu s') fun h' => some (V.tup (.s s :: cs), h')) = some z from c2)
        obtain ⟨s2, n, c5, c6⟩ := c2G_some c4
        rw [Hp.setK_eq] at c6
        cases c6
        cases c3
        have hr : r.n < h'.n.n := by
          have hj : (V.tup (.s (.p r o) :: cs)).ok h'.n.n = true := j3
          simp only [V.ok, V.rf, List.all_cons, Bool.and_eq_true] at hj
          exact Pth.ok_iff.1 hj.1
        exact ⟨cu_weak U hr (by rw [← Hp.gb_eq]; exact c5), j1, j2, j3⟩
theorem isu_eq {e : Env} {v : V} {x : Value} (h : Isu e v x) (hu : v ≠ .u) (hn : v.nU = true) : x = v.tr e := by
  rcases h with h | h
  · exact absurd h hu
  · exact h.eq hn
theorem vl_nat {e : Env} {a : Nat} (h : a < 18446744073709551616) : vl e (.ofNat a) = a := vl_lt (by show (a : Int) < _; omega)
theorem iss2 {e : Env} {a b : V} : ∀ {xs : List Value}, Iss e [a, b] xs → ∃ x y, xs = [x, y] ∧ Isu e a x ∧ Isu e b y
  | [x, y], .cons h1 (.cons h2 .nil) => ⟨x, y, rfl, h1, h2⟩
theorem iss3 {e : Env} {a b c : V} : ∀ {xs : List Value}, Iss e [a, b, c] xs → ∃ x y z, xs = [x, y, z] ∧ Isu e a x ∧ Isu e b y ∧ Isu e c z
  | [x, y, z], .cons h1 (.cons h2 (.cons h3 .nil)) => ⟨x, y, z, rfl, h1, h2, h3⟩
theorem nRead_some : ∀ {args : List V} {h : Hp} {z : RES}, nRead args h = some z → ∃ x a r q i m D d p n k, args = [x, .s (.i .i64 (.ofNat a))] ∧ MemG h x a r q i m D d p n k ∧ z = (.tup [.s (.i .u64 (wg d i)), .s (.i .i64 0)], h)
  | [x, y], h, z, hz => by
    obtain ⟨kd, n, hy, h1⟩ := asI_some (show asI y _ = some z from hz)
    cases n with
    | negSucc _ => cases h1
    | ofNat a =>
      obtain ⟨h2, h3⟩ := onB_t (show onB (kEq kd .i64) _ none = some z from h1)
      obtain ⟨r, q, i, m, D, d, p, n, k, G, h4⟩ := memG_some h3
      rw [fI_eq, wgF_eq] at h4
      rw [hy, kEq_t h2]
      exact ⟨x, a, r, q, i, m, D, d, p, n, k, rfl, G, (Option.some.inj h4).symm⟩
  | [], _, _, h => by cases h
  | [_], _, _, h => by cases h
  | _ :: y :: _ :: _, _, _, h => by cases h
theorem nWrite_some : ∀ {args : List V} {h : Hp} {z : RES}, nWrite args h = some z → ∃ x a n0 r q i m D d p n k, args = [x, .s (.i .i64 (.ofNat a)), .s (.i .u64 n0)] ∧ kn n0 = true ∧ MemG h x a r q i m D d p n k ∧ z = (.s (.i .i64 0), h.set q (.w .u64 m D (wst d i n0)))
  | [x, y, v], h, z, hz => by
    obtain ⟨kd, n, hy, h1⟩ := asI_some (show asI y _ = some z from hz)
    cases n with
    | negSucc _ => cases h1
    | ofNat a =>
      obtain ⟨h2, h3⟩ := onB_t (show onB (kEq kd .i64) _ none = some z from h1)
      obtain ⟨kz, n0, hv, h4⟩ := asI_some h3
      obtain ⟨h5, h6⟩ := onB_t h4
      obtain ⟨h7, h8⟩ := onB_t h6
      obtain ⟨r, q, i, m, D, d, p, n, k, G, h9⟩ := memG_some h8
      rw [wsK_eq, Hp.setK_eq] at h9
      rw [hy, hv, kEq_t h2, kEq_t h5]
      exact ⟨x, a, n0, r, q, i, m, D, d, p, n, k, rfl, h7, G, (Option.some.inj h9).symm⟩
  | [], _, _, h => by cases h
  | [_], _, _, h => by cases h
  | [_, _], _, _, h => by cases h
  | _ :: _ :: _ :: _ :: _, _, _, h => by cases h
theorem MemG.rq {e : Env} {h : Hp} {w : World} {x : V} {a : Nat} {r q : Pth} {i m D : Nat} {d : Wt} {p n k : Nat} (G : MemG h x a r q i m D d p n k) (H : Rel e h w) (hx : x.rf (Pth.ok h.n.n) = true) : r.n < h.n.n ∧ q.n < h.n.n := by
  rw [G.hx] at hx
  have hr := Pth.ok_iff.1 hx
  have := H.val r hr
  rw [G.hr] at this
  exact ⟨hr, Pth.ok_iff.1 this⟩
inductive MT where
  | e
  | nd (k : Nat) (A : List V) (v : V) (l r : MT)
noncomputable def hI (n : Int) (acc : Nat) : Nat := Int.rec (fun m => Nat.add (Nat.mul acc 1000003) m) (fun m => Nat.add (Nat.mul acc 1000033) m) n
noncomputable def hS (s : S) (acc : Nat) : Nat := S.rec (fun q => Bool.rec (Nat.mul acc 3) (Nat.mul acc 5) q) (fun _ n => hI n acc) (fun _ _ => acc) acc (fun _ _ _ _ => acc) acc (fun _ _ => acc) (fun _ _ => acc) (fun _ _ _ _ => acc) acc (fun _ => acc) (fun _ => acc) acc (fun _ => acc) acc (fun _ _ => acc) s
noncomputable def hSs (l : List S) : Nat → Nat := List.rec (motive := fun _ => Nat → Nat) (fun acc => acc) (fun s _ ih acc => ih (hS s acc)) l
noncomputable def hV (v : V) (acc : Nat) : Nat := V.rec (fun s => hS s acc) (fun l => hSs l acc) (fun _ => acc) acc v
noncomputable def hVs (l : List V) : Nat → Nat := List.rec (motive := fun _ => Nat → Nat) (fun acc => acc) (fun s _ ih acc => ih (hV s acc)) l
noncomputable def lkM (args : List V) (h : Hp) (n : Nat) (t : MT) : Ans := MT.rec none (fun k A v _ _ il ir => Bool.rec (Bool.rec ir il (Nat.blt n k)) (onB (vsEq A args) (some (v, h)) none) (Nat.beq n k)) t
noncomputable def pmT (t : MT) : NF := fun args h => lkM args h (hVs args 1) t
noncomputable def MT.all (f : List V × V → Bool) (t : MT) : Bool := MT.rec true (fun _ A v _ _ il ir => and (f (A, v)) (and il ir)) t
theorem lkM_some {args : List V} {h : Hp} {n : Nat} {f : List V × V → Bool} (t : MT) : ∀ {z : RES}, lkM args h n t = some z → t.all f = true → ∃ v, f (args, v) = true ∧ z = (v, h) := by
  induction t with
  | e => intro z hz; cases hz
  | nd k A v l r il ir =>
    intro z hz ha
    obtain ⟨a1, a2⟩ := and_t (show and (f (A, v)) (and (l.all f) (r.all f)) = true from ha)
    obtain ⟨a2, a3⟩ := and_t a2
    have hz2 : (Bool.rec (Bool.rec (lkM args h n r) (lkM args h n l) (Nat.blt n k)) (onB (vsEq A args) (some (v, h)) none) (Nat.beq n k) : Ans) = some z := hz
    clear hz
    generalize Nat.beq n k = c at hz2
    generalize Nat.blt n k = c2 at hz2
    cases c with
    | true =>
      obtain ⟨h1, h2⟩ := onB_t (show onB (vsEq A args) (some (v, h)) none = some z from hz2)
      rw [vsEq_eq h1] at a1
      exact ⟨v, a1, (Option.some.inj h2).symm⟩
    | false =>
      cases c2 with
      | true => exact il hz2 a2
      | false => exact ir hz2 a3
theorem pmT_ok {Y : Lay} {P : Program} {κ : KP} {cal : Cal} (hY : ∀ g p, Y.g = some (g, p) → p = .z) (HC : CalOk Y P κ cal) {f : Pth} {t : MT} (h : t.all (pmB cal f) = true) : NfOk Y P κ f.n (pmT t) := fun args h0 r hr e w xs hκ hR hG hf hx => by
  obtain ⟨v, h1, rfl⟩ := lkM_some t hr h
  exact pm_core hY HC h1 hκ hR hG hx
noncomputable def bRf (f : Pth → Bool) (b : B) : Bool := B.rec true (fun cs => allF (S.rf f) cs) (fun cs => allF (S.rf f) cs) (fun cs _ _ => allF (S.rf f) cs) (fun _ _ _ d => d.kns) (fun es _ => allF (fun x => x.1.rk f && x.2.1.rk f) es) (fun es => allF (fun x => x.1.rk f && x.2.rk f) es) (fun m _ _ _ => Option.rec true f m) (fun _ _ _ _ _ _ => false) true (fun s => s.rf f) (fun _ => true) b
theorem bRf_rf {f : Pth → Bool} {b : B} (h : bRf f b = true) : b.rf f = true := by
  cases b with
  | dd => rfl
  | ro cs => show cs.all _ = true; rw [← allF_eq]; exact h
  | c cs => show cs.all _ = true; rw [← allF_eq]; exact h
  | gr cs m es => show cs.all _ = true; rw [← allF_eq]; exact h
  | w k m D d => exact h
  | mp es ck => show es.all _ = true; rw [← allF_eq]; exact h
  | ml es => show es.all _ = true; rw [← allF_eq]; exact h
  | it m a b c => cases m <;> exact h
  | lp => cases h
  | dq => rfl
  | cu s => exact h
  | rb n => rfl
noncomputable def n8a {α : Type} (f : Nat → α → Bool) (w i : Nat) (a : N8 α) : Bool :=
  N8.casesOn a fun a0 a1 a2 a3 a4 a5 a6 a7 => and (f i a0) (and (f (Nat.add i w) a1) (and (f (Nat.add i (Nat.mul 2 w)) a2) (and (f (Nat.add i (Nat.mul 3 w)) a3) (and (f (Nat.add i (Nat.mul 4 w)) a4) (and (f (Nat.add i (Nat.mul 5 w)) a5) (and (f (Nat.add i (Nat.mul 6 w)) a6) (f (Nat.add i (Nat.mul 7 w)) a7)))))))
theorem n8a_at {α : Type} {f : Nat → α → Bool} {w i : Nat} {a : N8 α} (h : n8a f w i a = true) (j : D8) : f (i + j.v * w) (a.g j) = true := by
  obtain ⟨a0, a1, a2, a3, a4, a5, a6, a7⟩ := a
  obtain ⟨h0, h⟩ := and_t h
  obtain ⟨h1, h⟩ := and_t h
  obtain ⟨h2, h⟩ := and_t h
  obtain ⟨h3, h⟩ := and_t h
  obtain ⟨h4, h⟩ := and_t h
  obtain ⟨h5, h⟩ := and_t h
  obtain ⟨h6, h7⟩ := and_t h
  cases j with
  | a => show f (i + 0 * w) a0 = true; rw [Nat.zero_mul]; exact h0
  | b => show f (i + 1 * w) a1 = true; rw [Nat.one_mul]; exact h1
  | c => exact h2
  | d => exact h3
  | e => exact h4
  | f => exact h5
  | g => exact h6
  | h => exact h7
noncomputable def blB (m : Nat) (f : Nat → B → Bool) (a : Tr B) : Bool := Tr.rec (fun s t _ =>
  and (Nat.ble m 576) (and (n8a (fun i x => pastB m i (n8a (fun i x => pastB m i (f i x)) 1 i x)) 8 0 s) (pastB m 64 (n8a (fun i x => pastB m i (n8a (fun i x => pastB m i (n8a (fun i x => pastB m i (f i x)) 1 i x)) 8 i x)) 64 64 t)))) a
theorem blB_at {m : Nat} {f : Nat → B → Bool} {a : Tr B} (h : blB m f a = true) (p : Pth) (hp : p.n < m) : f p.n (gt .dd p a) = true := by
  obtain ⟨s, t, o⟩ := a
  obtain ⟨h1, h⟩ := and_t h
  obtain ⟨h2, h3⟩ := and_t h
  have h1 := nat_le h1
  cases p with
  | s i j =>
    have hn := Pth.n_s i j
    have k1 := pastB_t (n8a_at h2 i) (by omega)
    have k2 := pastB_t (n8a_at k1 j) (by omega)
    rw [hn, show 8 * i.v + j.v = 0 + i.v * 8 + j.v * 1 by omega]
    exact k2
  | t i j k =>
    have hn := Pth.n_t i j k
    have k1 := pastB_t (n8a_at (pastB_t h3 (by omega)) i) (by omega)
    have k2 := pastB_t (n8a_at k1 j) (by omega)
    have k3 := pastB_t (n8a_at k2 k) (by omega)
    rw [hn, show 64 + (64 * i.v + (8 * j.v + k.v)) = 64 + i.v * 64 + j.v * 8 + k.v * 1 by omega]
    exact k3
  | o n => have := Pth.n_o n; omega
noncomputable def escM (m er eq r : Nat) (q : Pth) : Bool := and (Nat.blt q.n m) (or (Nat.ble q.n r) (and (Nat.ble er r) (Nat.ble q.n eq)))
theorem Step.trim {e e' : Env} {h h' : Hp} {w w' : World} (T : Step e h w e' h' w') {er eq : Nat} (hs : blB h.n.n (fun r b => bRf (escM h.n.n er eq r) b) h'.b = true) : Step e h w e' { h' with n := h.n, er := er, eq := eq } w' := by
  have hlt : ∀ r : Pth, r.n < h.n.n → r.n < h'.n.n := fun r hr => by have := T.le; omega
  have hb : ∀ r : Pth, r.n < h.n.n → (h'.at r).rf (escM h.n.n er eq r.n) = true := fun r hr => bRf_rf (blB_at hs r hr)
  refine ⟨⟨fun r hr => T.rel.ok r (hlt r hr), fun r r' hr hr' => T.rel.sep r r' (hlt r hr) (hlt r' hr'), fun r hr => ?_, fun r hr => ?_⟩, T.fz, T.ch, T.agr, Nat.le_refl _, T.os, T.tape, T.output, T.size, T.keep, fun r hr => T.mine r (hlt r hr), fun r hr => T.nd r (hlt r hr)⟩
  · exact B.rf_mono (fun p hp => (and_t hp).1) (hb r hr)
  · exact B.rf_mono (fun p hp => (and_t hp).2) (hb r hr)
noncomputable def trimC (cal : Cal) : Cal := fun s args h => onO (cal s args h) fun r => Prod.rec (fun v h' => fN h.n.n fun m => Hp.rec (fun _ n er eq _ _ _ => Hp.rec (fun b _ _ _ fz df ch =>
  onB (and (v.ok m) (blB m (fun r b => bRf (escM m er eq r) b) b)) (some (v, Hp.mk b n er eq fz df ch)) none) h') h) r
theorem trimC_ok {Y : Lay} {P : Program} {κ : KP} {cal : Cal} (HC : CalOk Y P κ cal) : CalOk Y P κ (trimC cal) := fun s args h z hz e w xs hκ hR hG hs hf hx => by
  obtain ⟨⟨v, h'⟩, c1, c2⟩ := onO_some hz
  have hC := HC s args h _ c1 e w xs hκ hR hG hs hf hx
  have c3 : fN h.n.n (fun m => onB (and (v.ok m) (blB m (fun r b => bRf (escM m h.er h.eq r) b) h'.b)) (some (v, { h' with n := h.n, er := h.er, eq := h.eq })) none) = some z := c2
  rw [fN_eq] at c3
  obtain ⟨c4, c5⟩ := onB_t c3
  obtain ⟨c6, c7⟩ := and_t c4
  cases c5
  refine hC.mono fun x w' ⟨e', i1, i2, i3, i4⟩ => ⟨e', i1.trim c7, i2, i3, c6⟩
set_option maxRecDepth 100000
abbrev z0 : S := .i .i64 0
abbrev K (n : Int) : O := .k (.s (.i .i64 n))
abbrev k64 (n : Int) : O := .k (.s (.i .u64 n))
abbrev kt : O := .k (.s (.b true))
abbrev kf : O := .k (.s (.b false))
abbrev m (d a : Pth) : GJ := .g (some d) (.mv (.t a))
abbrev g (d : Pth) (op : J) : GJ := .g (some d) op
abbrev c (d : Pth) (op : J) (j : Pth) (w : Bool) : GJ := .c (some d) op j w
abbrev q (a b : DJ) : DJ := .seq a b
def Zi : Nat → List S
  | 0 => []
  | n + 1 => z0 :: Zi n
def a0 : Pth := .s .a .a
def a1 : Pth := .s .a .b
def a2 : Pth := .s .a .c
def a3 : Pth := .s .a .d
def a4 : Pth := .s .a .e
def a5 : Pth := .s .a .f
def a6 : Pth := .s .a .g
def a7 : Pth := .s .a .h
def a8 : Pth := .s .b .a
def a9 : Pth := .s .b .b
def a10 : Pth := .s .b .c
def a11 : Pth := .s .b .d
def a12 : Pth := .s .b .e
def a13 : Pth := .s .b .f
def a14 : Pth := .s .b .g
def a15 : Pth := .s .b .h
def a16 : Pth := .s .c .a
def a17 : Pth := .s .c .b
def a18 : Pth := .s .c .c
def a19 : Pth := .s .c .d
def a20 : Pth := .s .c .e
def a21 : Pth := .s .c .f
def a22 : Pth := .s .c .g
def a23 : Pth := .s .c .h
def a24 : Pth := .s .d .a
def a25 : Pth := .s .d .b
def a26 : Pth := .s .d .c
def a27 : Pth := .s .d .d
def a28 : Pth := .s .d .e
def a29 : Pth := .s .d .f
def a30 : Pth := .s .d .g
def a31 : Pth := .s .d .h
def a32 : Pth := .s .e .a
def a33 : Pth := .s .e .b
def a34 : Pth := .s .e .c
def a35 : Pth := .s .e .d
def a36 : Pth := .s .e .e
def a37 : Pth := .s .e .f
def a38 : Pth := .s .e .g
def a39 : Pth := .s .e .h
def a40 : Pth := .s .f .a
def a41 : Pth := .s .f .b
def a42 : Pth := .s .f .c
def a43 : Pth := .s .f .d
def a44 : Pth := .s .f .e
def a45 : Pth := .s .f .f
def a46 : Pth := .s .f .g
def a47 : Pth := .s .f .h
def a48 : Pth := .s .g .a
def a49 : Pth := .s .g .b
def a50 : Pth := .s .g .c
def a51 : Pth := .s .g .d
def a52 : Pth := .s .g .e
def a53 : Pth := .s .g .f
def a54 : Pth := .s .g .g
def a55 : Pth := .s .g .h
def a56 : Pth := .s .h .a
def a57 : Pth := .s .h .b
def a58 : Pth := .s .h .c
def a59 : Pth := .s .h .d
def a60 : Pth := .s .h .e
def a61 : Pth := .s .h .f
def a62 : Pth := .s .h .g
def a63 : Pth := .s .h .h
def a64 : Pth := .t .a .a .a
def a65 : Pth := .t .a .a .b
def a66 : Pth := .t .a .a .c
def a67 : Pth := .t .a .a .d
def a68 : Pth := .t .a .a .e
def a69 : Pth := .t .a .a .f
def a70 : Pth := .t .a .a .g
def a71 : Pth := .t .a .a .h
def a72 : Pth := .t .a .b .a
def a73 : Pth := .t .a .b .b
def a74 : Pth := .t .a .b .c
def a75 : Pth := .t .a .b .d
def a76 : Pth := .t .a .b .e
def a77 : Pth := .t .a .b .f
def a78 : Pth := .t .a .b .g
def a79 : Pth := .t .a .b .h
def a80 : Pth := .t .a .c .a
def a81 : Pth := .t .a .c .b
def a82 : Pth := .t .a .c .c
def a83 : Pth := .t .a .c .d
def a84 : Pth := .t .a .c .e
def a85 : Pth := .t .a .c .f
def a86 : Pth := .t .a .c .g
def a87 : Pth := .t .a .c .h
def a88 : Pth := .t .a .d .a
def a89 : Pth := .t .a .d .b
def a90 : Pth := .t .a .d .c
def a91 : Pth := .t .a .d .d
def a92 : Pth := .t .a .d .e
def a93 : Pth := .t .a .d .f
def a94 : Pth := .t .a .d .g
def a95 : Pth := .t .a .d .h
def a96 : Pth := .t .a .e .a
def a97 : Pth := .t .a .e .b
def a98 : Pth := .t .a .e .c
def a99 : Pth := .t .a .e .d
def a100 : Pth := .t .a .e .e
def a101 : Pth := .t .a .e .f
def a102 : Pth := .t .a .e .g
def a103 : Pth := .t .a .e .h
def a104 : Pth := .t .a .f .a
def a105 : Pth := .t .a .f .b
def a106 : Pth := .t .a .f .c
def a107 : Pth := .t .a .f .d
def a108 : Pth := .t .a .f .e
def a109 : Pth := .t .a .f .f
def a110 : Pth := .t .a .f .g
def a111 : Pth := .t .a .f .h
def a112 : Pth := .t .a .g .a
def a113 : Pth := .t .a .g .b
def a114 : Pth := .t .a .g .c
def a115 : Pth := .t .a .g .d
def a116 : Pth := .t .a .g .e
def a117 : Pth := .t .a .g .f
def a118 : Pth := .t .a .g .g
def a119 : Pth := .t .a .g .h
def a120 : Pth := .t .a .h .a
def a121 : Pth := .t .a .h .b
def a122 : Pth := .t .a .h .c
def a123 : Pth := .t .a .h .d
def a124 : Pth := .t .a .h .e
def a125 : Pth := .t .a .h .f
def a126 : Pth := .t .a .h .g
def a127 : Pth := .t .a .h .h
def a128 : Pth := .t .b .a .a
def a129 : Pth := .t .b .a .b
def a130 : Pth := .t .b .a .c
def a131 : Pth := .t .b .a .d
def a132 : Pth := .t .b .a .e
def a133 : Pth := .t .b .a .f
def a134 : Pth := .t .b .a .g
def a135 : Pth := .t .b .a .h
def a136 : Pth := .t .b .b .a
def a137 : Pth := .t .b .b .b
def a138 : Pth := .t .b .b .c
def a139 : Pth := .t .b .b .d
def a140 : Pth := .t .b .b .e
def a141 : Pth := .t .b .b .f
def a142 : Pth := .t .b .b .g
def a143 : Pth := .t .b .b .h
def a144 : Pth := .t .b .c .a
def a145 : Pth := .t .b .c .b
def a146 : Pth := .t .b .c .c
def a147 : Pth := .t .b .c .d
def a148 : Pth := .t .b .c .e
def a149 : Pth := .t .b .c .f
def a150 : Pth := .t .b .c .g
def a151 : Pth := .t .b .c .h
def a152 : Pth := .t .b .d .a
def a153 : Pth := .t .b .d .b
def a154 : Pth := .t .b .d .c
def a155 : Pth := .t .b .d .d
def a156 : Pth := .t .b .d .e
def a157 : Pth := .t .b .d .f
def a158 : Pth := .t .b .d .g
def a159 : Pth := .t .b .d .h
def a160 : Pth := .t .b .e .a
def a161 : Pth := .t .b .e .b
def a162 : Pth := .t .b .e .c
def a163 : Pth := .t .b .e .d
def a164 : Pth := .t .b .e .e
def a165 : Pth := .t .b .e .f
def a166 : Pth := .t .b .e .g
def a167 : Pth := .t .b .e .h
def a168 : Pth := .t .b .f .a
def a169 : Pth := .t .b .f .b
def a170 : Pth := .t .b .f .c
def a171 : Pth := .t .b .f .d
def a172 : Pth := .t .b .f .e
def a173 : Pth := .t .b .f .f
def a174 : Pth := .t .b .f .g
def a175 : Pth := .t .b .f .h
def a176 : Pth := .t .b .g .a
def a177 : Pth := .t .b .g .b
def a178 : Pth := .t .b .g .c
def a179 : Pth := .t .b .g .d
def a180 : Pth := .t .b .g .e
def a181 : Pth := .t .b .g .f
def a182 : Pth := .t .b .g .g
def a183 : Pth := .t .b .g .h
def a184 : Pth := .t .b .h .a
def a185 : Pth := .t .b .h .b
def a186 : Pth := .t .b .h .c
def a187 : Pth := .t .b .h .d
def a188 : Pth := .t .b .h .e
def a189 : Pth := .t .b .h .f
def a190 : Pth := .t .b .h .g
def a191 : Pth := .t .b .h .h
def a192 : Pth := .t .c .a .a
def a193 : Pth := .t .c .a .b
def a194 : Pth := .t .c .a .c
def a195 : Pth := .t .c .a .d
def a196 : Pth := .t .c .a .e
def a197 : Pth := .t .c .a .f
def a198 : Pth := .t .c .a .g
def a199 : Pth := .t .c .a .h
def a200 : Pth := .t .c .b .a
def a201 : Pth := .t .c .b .b
def a202 : Pth := .t .c .b .c
def a203 : Pth := .t .c .b .d
def a204 : Pth := .t .c .b .e
def a205 : Pth := .t .c .b .f
def a206 : Pth := .t .c .b .g
def a207 : Pth := .t .c .b .h
def a208 : Pth := .t .c .c .a
def a209 : Pth := .t .c .c .b
def a210 : Pth := .t .c .c .c
def a211 : Pth := .t .c .c .d
def a212 : Pth := .t .c .c .e
def a213 : Pth := .t .c .c .f
def a214 : Pth := .t .c .c .g
def a215 : Pth := .t .c .c .h
def a216 : Pth := .t .c .d .a
def a217 : Pth := .t .c .d .b
def a218 : Pth := .t .c .d .c
def a219 : Pth := .t .c .d .d
def a220 : Pth := .t .c .d .e
def a221 : Pth := .t .c .d .f
def a222 : Pth := .t .c .d .g
def a223 : Pth := .t .c .d .h
def a224 : Pth := .t .c .e .a
def a225 : Pth := .t .c .e .b
def a226 : Pth := .t .c .e .c
def a227 : Pth := .t .c .e .d
def a228 : Pth := .t .c .e .e
def a229 : Pth := .t .c .e .f
def a230 : Pth := .t .c .e .g
def a231 : Pth := .t .c .e .h
def a232 : Pth := .t .c .f .a
def a233 : Pth := .t .c .f .b
def a234 : Pth := .t .c .f .c
def a235 : Pth := .t .c .f .d
def a236 : Pth := .t .c .f .e
def a237 : Pth := .t .c .f .f
def a238 : Pth := .t .c .f .g
def a239 : Pth := .t .c .f .h
def a240 : Pth := .t .c .g .a
def a241 : Pth := .t .c .g .b
def a242 : Pth := .t .c .g .c
def a243 : Pth := .t .c .g .d
def a244 : Pth := .t .c .g .e
def a245 : Pth := .t .c .g .f
def a246 : Pth := .t .c .g .g
def a247 : Pth := .t .c .g .h
def a248 : Pth := .t .c .h .a
def a249 : Pth := .t .c .h .b
def a250 : Pth := .t .c .h .c
def a251 : Pth := .t .c .h .d
def a252 : Pth := .t .c .h .e
def a253 : Pth := .t .c .h .f
def a254 : Pth := .t .c .h .g
def a255 : Pth := .t .c .h .h
def a256 : Pth := .t .d .a .a
def a257 : Pth := .t .d .a .b
def a258 : Pth := .t .d .a .c
def a259 : Pth := .t .d .a .d
def a260 : Pth := .t .d .a .e
def a261 : Pth := .t .d .a .f
def a262 : Pth := .t .d .a .g
def a263 : Pth := .t .d .a .h
def a264 : Pth := .t .d .b .a
def a265 : Pth := .t .d .b .b
def a266 : Pth := .t .d .b .c
def a267 : Pth := .t .d .b .d
def a268 : Pth := .t .d .b .e
def a269 : Pth := .t .d .b .f
def a270 : Pth := .t .d .b .g
def a271 : Pth := .t .d .b .h
def a272 : Pth := .t .d .c .a
def a273 : Pth := .t .d .c .b
def a274 : Pth := .t .d .c .c
def a275 : Pth := .t .d .c .d
def a276 : Pth := .t .d .c .e
def a277 : Pth := .t .d .c .f
def a278 : Pth := .t .d .c .g
def a279 : Pth := .t .d .c .h
def a280 : Pth := .t .d .d .a
def a281 : Pth := .t .d .d .b
def a282 : Pth := .t .d .d .c
def a283 : Pth := .t .d .d .d
def a284 : Pth := .t .d .d .e
def a285 : Pth := .t .d .d .f
def a286 : Pth := .t .d .d .g
def a287 : Pth := .t .d .d .h
def a288 : Pth := .t .d .e .a
def a289 : Pth := .t .d .e .b
def a290 : Pth := .t .d .e .c
def a291 : Pth := .t .d .e .d
def a292 : Pth := .t .d .e .e
def a293 : Pth := .t .d .e .f
def a294 : Pth := .t .d .e .g
def a295 : Pth := .t .d .e .h
def a296 : Pth := .t .d .f .a
def a297 : Pth := .t .d .f .b
def a298 : Pth := .t .d .f .c
def a299 : Pth := .t .d .f .d
def a300 : Pth := .t .d .f .e
def a301 : Pth := .t .d .f .f
def a302 : Pth := .t .d .f .g
def a303 : Pth := .t .d .f .h
def a304 : Pth := .t .d .g .a
def a305 : Pth := .t .d .g .b
def a306 : Pth := .t .d .g .c
def a307 : Pth := .t .d .g .d
def a308 : Pth := .t .d .g .e
def a309 : Pth := .t .d .g .f
def a310 : Pth := .t .d .g .g
def a311 : Pth := .t .d .g .h
def a312 : Pth := .t .d .h .a
def a313 : Pth := .t .d .h .b
def a314 : Pth := .t .d .h .c
def a315 : Pth := .t .d .h .d
def a316 : Pth := .t .d .h .e
def a317 : Pth := .t .d .h .f
def a318 : Pth := .t .d .h .g
def a319 : Pth := .t .d .h .h
def a320 : Pth := .t .e .a .a
def a321 : Pth := .t .e .a .b
def a322 : Pth := .t .e .a .c
def a323 : Pth := .t .e .a .d
def a324 : Pth := .t .e .a .e
def a325 : Pth := .t .e .a .f
def a326 : Pth := .t .e .a .g
def a327 : Pth := .t .e .a .h
def a328 : Pth := .t .e .b .a
def a329 : Pth := .t .e .b .b
def a330 : Pth := .t .e .b .c
def a331 : Pth := .t .e .b .d
def a332 : Pth := .t .e .b .e
def a333 : Pth := .t .e .b .f
def a334 : Pth := .t .e .b .g
def a335 : Pth := .t .e .b .h
def a336 : Pth := .t .e .c .a
def a337 : Pth := .t .e .c .b
def a338 : Pth := .t .e .c .c
def a339 : Pth := .t .e .c .d
def a340 : Pth := .t .e .c .e
def a341 : Pth := .t .e .c .f
def a342 : Pth := .t .e .c .g
def a343 : Pth := .t .e .c .h
def a344 : Pth := .t .e .d .a
def a345 : Pth := .t .e .d .b
def a346 : Pth := .t .e .d .c
def a347 : Pth := .t .e .d .d
def a348 : Pth := .t .e .d .e
def a349 : Pth := .t .e .d .f
def a350 : Pth := .t .e .d .g
def a351 : Pth := .t .e .d .h
def a352 : Pth := .t .e .e .a
def a353 : Pth := .t .e .e .b
def a354 : Pth := .t .e .e .c
def a355 : Pth := .t .e .e .d
def a356 : Pth := .t .e .e .e
def a357 : Pth := .t .e .e .f
def a358 : Pth := .t .e .e .g
def a359 : Pth := .t .e .e .h
def a360 : Pth := .t .e .f .a
def a361 : Pth := .t .e .f .b
def a362 : Pth := .t .e .f .c
def a363 : Pth := .t .e .f .d
def a364 : Pth := .t .e .f .e
def a365 : Pth := .t .e .f .f
def a366 : Pth := .t .e .f .g
def a367 : Pth := .t .e .f .h
def a368 : Pth := .t .e .g .a
def a369 : Pth := .t .e .g .b
def a370 : Pth := .t .e .g .c
def a371 : Pth := .t .e .g .d
def a372 : Pth := .t .e .g .e
def a373 : Pth := .t .e .g .f
def a374 : Pth := .t .e .g .g
def a375 : Pth := .t .e .g .h
def a376 : Pth := .t .e .h .a
def a377 : Pth := .t .e .h .b
def a378 : Pth := .t .e .h .c
def a379 : Pth := .t .e .h .d
def a380 : Pth := .t .e .h .e
def a381 : Pth := .t .e .h .f
def a382 : Pth := .t .e .h .g
def a383 : Pth := .t .e .h .h
def a384 : Pth := .t .f .a .a
def a385 : Pth := .t .f .a .b
def a386 : Pth := .t .f .a .c
def a387 : Pth := .t .f .a .d
def a388 : Pth := .t .f .a .e
def a389 : Pth := .t .f .a .f
def a390 : Pth := .t .f .a .g
def a391 : Pth := .t .f .a .h
def a392 : Pth := .t .f .b .a
def a393 : Pth := .t .f .b .b
def a394 : Pth := .t .f .b .c
def a395 : Pth := .t .f .b .d
def a396 : Pth := .t .f .b .e
def a397 : Pth := .t .f .b .f
def a398 : Pth := .t .f .b .g
def a399 : Pth := .t .f .b .h
def a400 : Pth := .t .f .c .a
def a401 : Pth := .t .f .c .b
def a402 : Pth := .t .f .c .c
def a403 : Pth := .t .f .c .d
def a404 : Pth := .t .f .c .e
def a405 : Pth := .t .f .c .f
def a406 : Pth := .t .f .c .g
def a407 : Pth := .t .f .c .h
def a408 : Pth := .t .f .d .a
def a409 : Pth := .t .f .d .b
def a410 : Pth := .t .f .d .c
def a411 : Pth := .t .f .d .d
def a412 : Pth := .t .f .d .e
def a413 : Pth := .t .f .d .f
def a414 : Pth := .t .f .d .g
def a415 : Pth := .t .f .d .h
def a416 : Pth := .t .f .e .a
def a417 : Pth := .t .f .e .b
def a418 : Pth := .t .f .e .c
def a419 : Pth := .t .f .e .d
def a420 : Pth := .t .f .e .e
def a421 : Pth := .t .f .e .f
def a422 : Pth := .t .f .e .g
def a423 : Pth := .t .f .e .h
def a424 : Pth := .t .f .f .a
def a425 : Pth := .t .f .f .b
def a426 : Pth := .t .f .f .c
def a427 : Pth := .t .f .f .d
def a428 : Pth := .t .f .f .e
def a429 : Pth := .t .f .f .f
def a430 : Pth := .t .f .f .g
def a431 : Pth := .t .f .f .h
def a432 : Pth := .t .f .g .a
def a433 : Pth := .t .f .g .b
def a434 : Pth := .t .f .g .c
def a435 : Pth := .t .f .g .d
def a436 : Pth := .t .f .g .e
def a437 : Pth := .t .f .g .f
def a438 : Pth := .t .f .g .g
def a439 : Pth := .t .f .g .h
def a440 : Pth := .t .f .h .a
def a441 : Pth := .t .f .h .b
def a442 : Pth := .t .f .h .c
def a443 : Pth := .t .f .h .d
def a444 : Pth := .t .f .h .e
def a445 : Pth := .t .f .h .f
def a446 : Pth := .t .f .h .g
def a447 : Pth := .t .f .h .h
def a448 : Pth := .t .g .a .a
def a449 : Pth := .t .g .a .b
def a450 : Pth := .t .g .a .c
def a451 : Pth := .t .g .a .d
def a452 : Pth := .t .g .a .e
def a453 : Pth := .t .g .a .f
def a454 : Pth := .t .g .a .g
def a455 : Pth := .t .g .a .h
def a456 : Pth := .t .g .b .a
def a457 : Pth := .t .g .b .b
def a458 : Pth := .t .g .b .c
def a459 : Pth := .t .g .b .d
def a460 : Pth := .t .g .b .e
def a461 : Pth := .t .g .b .f
def a462 : Pth := .t .g .b .g
def a463 : Pth := .t .g .b .h
def a464 : Pth := .t .g .c .a
def a465 : Pth := .t .g .c .b
def a466 : Pth := .t .g .c .c
def a467 : Pth := .t .g .c .d
def a468 : Pth := .t .g .c .e
def a469 : Pth := .t .g .c .f
def a470 : Pth := .t .g .c .g
def a471 : Pth := .t .g .c .h
def a472 : Pth := .t .g .d .a
def a473 : Pth := .t .g .d .b
def a474 : Pth := .t .g .d .c
def a475 : Pth := .t .g .d .d
def a476 : Pth := .t .g .d .e
def a477 : Pth := .t .g .d .f
def a478 : Pth := .t .g .d .g
def a479 : Pth := .t .g .d .h
def a480 : Pth := .t .g .e .a
def a481 : Pth := .t .g .e .b
def a482 : Pth := .t .g .e .c
def a483 : Pth := .t .g .e .d
def a484 : Pth := .t .g .e .e
def a485 : Pth := .t .g .e .f
def a486 : Pth := .t .g .e .g
def a487 : Pth := .t .g .e .h
def a488 : Pth := .t .g .f .a
def a489 : Pth := .t .g .f .b
def a490 : Pth := .t .g .f .c
def a491 : Pth := .t .g .f .d
def a492 : Pth := .t .g .f .e
def a493 : Pth := .t .g .f .f
def a494 : Pth := .t .g .f .g
def a495 : Pth := .t .g .f .h
def a496 : Pth := .t .g .g .a
def a497 : Pth := .t .g .g .b
def a498 : Pth := .t .g .g .c
def a499 : Pth := .t .g .g .d
abbrev b0 : O := .t a0
abbrev b1 : O := .t a1
abbrev b2 : O := .t a2
abbrev b3 : O := .t a3
abbrev b4 : O := .t a4
abbrev b5 : O := .t a5
abbrev b6 : O := .t a6
abbrev b7 : O := .t a7
abbrev b8 : O := .t a8
abbrev b9 : O := .t a9
abbrev b10 : O := .t a10
abbrev b11 : O := .t a11
abbrev b12 : O := .t a12
abbrev b13 : O := .t a13
abbrev b14 : O := .t a14
abbrev b15 : O := .t a15
abbrev b16 : O := .t a16
abbrev b17 : O := .t a17
abbrev b18 : O := .t a18
abbrev b19 : O := .t a19
abbrev b20 : O := .t a20
abbrev b21 : O := .t a21
abbrev b22 : O := .t a22
abbrev b23 : O := .t a23
abbrev b24 : O := .t a24
abbrev b25 : O := .t a25
abbrev b26 : O := .t a26
abbrev b27 : O := .t a27
abbrev b28 : O := .t a28
abbrev b29 : O := .t a29
abbrev b30 : O := .t a30
abbrev b31 : O := .t a31
abbrev b32 : O := .t a32
abbrev b33 : O := .t a33
abbrev b34 : O := .t a34
abbrev b35 : O := .t a35
abbrev b36 : O := .t a36
abbrev b37 : O := .t a37
abbrev b38 : O := .t a38
abbrev b39 : O := .t a39
abbrev b40 : O := .t a40
abbrev b41 : O := .t a41
abbrev b42 : O := .t a42
abbrev b43 : O := .t a43
abbrev b44 : O := .t a44
abbrev b45 : O := .t a45
abbrev b46 : O := .t a46
abbrev b47 : O := .t a47
abbrev b48 : O := .t a48
abbrev b49 : O := .t a49
abbrev b50 : O := .t a50
abbrev b51 : O := .t a51
abbrev b52 : O := .t a52
abbrev b53 : O := .t a53
abbrev b54 : O := .t a54
abbrev b55 : O := .t a55
abbrev b56 : O := .t a56
abbrev b57 : O := .t a57
abbrev b58 : O := .t a58
abbrev b59 : O := .t a59
abbrev b60 : O := .t a60
abbrev b61 : O := .t a61
abbrev b62 : O := .t a62
abbrev b63 : O := .t a63
abbrev b64 : O := .t a64
abbrev b65 : O := .t a65
abbrev b66 : O := .t a66
abbrev b67 : O := .t a67
abbrev b68 : O := .t a68
abbrev b69 : O := .t a69
abbrev b70 : O := .t a70
abbrev b71 : O := .t a71
abbrev b72 : O := .t a72
abbrev b73 : O := .t a73
abbrev b74 : O := .t a74
abbrev b75 : O := .t a75
abbrev b76 : O := .t a76
abbrev b77 : O := .t a77
abbrev b78 : O := .t a78
abbrev b79 : O := .t a79
abbrev b80 : O := .t a80
abbrev b81 : O := .t a81
abbrev b82 : O := .t a82
abbrev b83 : O := .t a83
abbrev b84 : O := .t a84
abbrev b85 : O := .t a85
abbrev b86 : O := .t a86
abbrev b87 : O := .t a87
abbrev b88 : O := .t a88
abbrev b89 : O := .t a89
abbrev b90 : O := .t a90
abbrev b91 : O := .t a91
abbrev b92 : O := .t a92
abbrev b93 : O := .t a93
abbrev b94 : O := .t a94
abbrev b95 : O := .t a95
abbrev b96 : O := .t a96
abbrev b97 : O := .t a97
abbrev b98 : O := .t a98
abbrev b99 : O := .t a99
abbrev b100 : O := .t a100
abbrev b101 : O := .t a101
abbrev b102 : O := .t a102
abbrev b103 : O := .t a103
abbrev b104 : O := .t a104
abbrev b105 : O := .t a105
abbrev b106 : O := .t a106
abbrev b107 : O := .t a107
abbrev b108 : O := .t a108
abbrev b109 : O := .t a109
abbrev b110 : O := .t a110
abbrev b111 : O := .t a111
abbrev b112 : O := .t a112
abbrev b113 : O := .t a113
abbrev b114 : O := .t a114
abbrev b115 : O := .t a115
abbrev b116 : O := .t a116
abbrev b117 : O := .t a117
abbrev b118 : O := .t a118
abbrev b119 : O := .t a119
abbrev b120 : O := .t a120
abbrev b121 : O := .t a121
abbrev b122 : O := .t a122
abbrev b123 : O := .t a123
abbrev b124 : O := .t a124
abbrev b125 : O := .t a125
abbrev b126 : O := .t a126
abbrev b127 : O := .t a127
abbrev b128 : O := .t a128
abbrev b129 : O := .t a129
abbrev b130 : O := .t a130
abbrev b131 : O := .t a131
abbrev b132 : O := .t a132
abbrev b133 : O := .t a133
abbrev b134 : O := .t a134
abbrev b135 : O := .t a135
abbrev b136 : O := .t a136
abbrev b137 : O := .t a137
abbrev b138 : O := .t a138
abbrev b139 : O := .t a139
abbrev b140 : O := .t a140
abbrev b141 : O := .t a141
abbrev b142 : O := .t a142
abbrev b143 : O := .t a143
abbrev b144 : O := .t a144
abbrev b145 : O := .t a145
abbrev b146 : O := .t a146
abbrev b147 : O := .t a147
abbrev b148 : O := .t a148
abbrev b149 : O := .t a149
abbrev b150 : O := .t a150
abbrev b151 : O := .t a151
abbrev b152 : O := .t a152
abbrev b153 : O := .t a153
abbrev b154 : O := .t a154
abbrev b155 : O := .t a155
abbrev b156 : O := .t a156
abbrev b157 : O := .t a157
abbrev b158 : O := .t a158
abbrev b159 : O := .t a159
abbrev b160 : O := .t a160
abbrev b161 : O := .t a161
abbrev b162 : O := .t a162
abbrev b163 : O := .t a163
abbrev b164 : O := .t a164
abbrev b165 : O := .t a165
abbrev b166 : O := .t a166
abbrev b167 : O := .t a167
abbrev b168 : O := .t a168
abbrev b169 : O := .t a169
abbrev b170 : O := .t a170
abbrev b171 : O := .t a171
abbrev b172 : O := .t a172
abbrev b173 : O := .t a173
abbrev b174 : O := .t a174
abbrev b175 : O := .t a175
abbrev b176 : O := .t a176
abbrev b177 : O := .t a177
abbrev b178 : O := .t a178
abbrev b179 : O := .t a179
abbrev b180 : O := .t a180
abbrev b181 : O := .t a181
abbrev b182 : O := .t a182
abbrev b183 : O := .t a183
abbrev b184 : O := .t a184
abbrev b185 : O := .t a185
abbrev b186 : O := .t a186
abbrev b187 : O := .t a187
abbrev b188 : O := .t a188
abbrev b189 : O := .t a189
abbrev b190 : O := .t a190
abbrev b191 : O := .t a191
abbrev b192 : O := .t a192
abbrev b193 : O := .t a193
abbrev b194 : O := .t a194
abbrev b195 : O := .t a195
abbrev b196 : O := .t a196
abbrev b197 : O := .t a197
end Go.E
