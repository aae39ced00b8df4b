/- A part of the proof of the claim that the last text of this folder states. -/
import Derived.Test.YtebgbhgehnpahaaGreatDoorProg
import Derived.WalkKit
import Derived.LoopN
import Derived.WalkSpells
import Derived.WalkLawsBesides
import Derived.Test.YtebgbhgehnpahaaGreatDoorN13
namespace Go.E
set_option linter.all false
inductive WJ where
  | leaf (d : DJ)
  | seq (a b : WJ)
  | cond (x : O) (a b : WJ)
  | block (id : Nat) (c : WJ)
inductive Sh where
  | f
  | s (a b : Sh)
  | c (a b : Sh)
  | b (a : Sh)
def compW (Y : Lay) (P : Program) (N : Nat) : Sh → Code → Option WJ
  | .f, c => (compC Y P N c).map WJ.leaf
  | .s a b, .seq x y => match compW Y P N a x, compW Y P N b y with
    | some p, some q => some (.seq p q)
    | _, _ => none
  | .c a b, .cond o x y => match compX Y o, compW Y P N a x, compW Y P N b y with
    | some o', some p, some q => some (.cond o' p q)
    | _, _, _ => none
  | .b a, .block id x => if id < 1000000 then (compW Y P N a x).map (WJ.block id) else none
  | _, _ => none
abbrev KB := T → Hp → Bool
noncomputable def bK (k : KB) : KT := fun t h => Bool.rec none (some (vu, hD)) (k t h)
noncomputable def isS (a : Ans) : Bool := Option.rec false (fun _ => true) a
abbrev MW := Cal → T → Hp → KB → KB → (Nat → KB) → Bool
noncomputable def w_leaf (d : DJ) : MW := fun cal t h kn kr kx => isS (exD d cal t h (bK kn) (bK kr) fun j => bK (kx j))
noncomputable def w_seq (ia ib : MW) : MW := fun cal t h kn kr kx => ia cal t h (fun t h => ib cal t h kn kr kx) kr kx
noncomputable def ubK (v : V) (f : Bool → Bool) (u : Bool) : Bool :=
  V.rec (fun s => S.rec f (fun _ _ => false) (fun _ _ => false) false (fun _ _ _ _ => false) false (fun _ _ => false) (fun _ _ => false) (fun _ _ _ _ => false) false (fun _ => false) (fun _ => false) false (fun _ => false) u (fun _ _ => false) s) (fun _ => false) (fun _ => false) false v
noncomputable def w_cond (x : O) (ia ib : MW) : MW := fun cal t h kn kr kx =>
  ubK (ev t x) (fun q => Bool.rec (ib cal t h kn kr kx) (ia cal t h kn kr kx) q) (and (ia cal t h kn kr kx) (ib cal t h kn kr kx))
noncomputable def w_block (id : Nat) (ic : MW) : MW := fun cal t h kn kr kx => ic cal t h kn kr fun j t h => Bool.rec (kx j t h) (kn t h) (Nat.beq j id)
noncomputable def exW (w : WJ) : MW := WJ.rec (motive := fun _ => MW) w_leaf (fun _ _ ia ib => w_seq ia ib) (fun x _ _ ia ib => w_cond x ia ib) (fun id _ ic => w_block id ic) w
def kB (kn kr : KB) (kx : Nat → KB) : Exit → Option KB
  | .normal => some kn
  | .ret => some kr
  | .exit id => if id < 1000000 then some (kx id) else none
  | .goto l => some (kx (goId l))
  | _ => none
def QW (P : Program) (N : Nat) (kn kr : KB) (kx : Nat → KB) (e : Env) (h : Hp) (w : World) : Exit → Act → World → Prop := fun ex a w' =>
  ∃ k, kB kn kr kx ex = some k ∧ ∃ e' h' t', Step e h w e' h' w' ∧ TS P N e' h' t' a ∧ k t' h' = true
theorem isS_out {a : Ans} (h : isS a = true) : ∃ r, a = some r := by
  cases a with
  | none => cases h
  | some r => exact ⟨r, rfl⟩
theorem bK_out {k : KB} {t : T} {h : Hp} {r : RES} (H : bK k t h = some r) : k t h = true := by
  have H : (Bool.rec none (some (vu, hD)) (k t h) : Ans) = some r := H
  cases c : k t h with
  | true => rfl
  | false => rw [c] at H; cases H
theorem ubK_out {v : V} {f : Bool → Bool} {u : Bool} (h : ubK v f u = true) : (∃ q, v = .s (.b q) ∧ f q = true) ∨ (v = .s .ub ∧ u = true) := by
  cases v with
  | s s => cases s <;> first | exact .inl ⟨_, rfl, h⟩ | exact .inr ⟨rfl, h⟩ | cases h
  | agg _ => cases h
  | tup _ => cases h
  | u => cases h
section
variable {Y : Lay} {P : Program} {N M : Nat} {κ : KP} {cal : Cal} {n : Nat}
theorem QW.step {kn kr : KB} {kx : Nat → KB} {e e1 : Env} {h h1 : Hp} {w w1 w' : World} {ex : Exit} {a : Act} (H : Step e h w e1 h1 w1) (hq : QW P N kn kr kx e1 h1 w1 ex a w') : QW P N kn kr kx e h w ex a w' := by
  obtain ⟨k, hk, e', h', t', i1, i2, i3⟩ := hq
  exact ⟨k, hk, e', h', t', H.trans i1, i2, i3⟩
theorem kB_of {kn kr : KB} {kx : Nat → KB} {ex : Exit} {k : KT} (h : kOf (bK kn) (bK kr) (fun j => bK (kx j)) ex = some k) : ∃ k', kB kn kr kx ex = some k' ∧ k = bK k' := by
  cases ex with
  | normal => cases h; exact ⟨_, rfl, rfl⟩
  | ret => cases h; exact ⟨_, rfl, rfl⟩
  | exit id =>
    simp only [kOf] at h
    split at h
    · rename_i hid; cases h; exact ⟨_, by simp only [kB, if_pos hid], rfl⟩
    · cases h
  | goto l => cases h; exact ⟨_, rfl, rfl⟩
  | panic c => cases h
  | outgrown => cases h
theorem blk_QW {id : Nat} {c1 : Code} {h : Hp} {kn kr : KB} {kx : Nat → KB} {e : Env} {a : Act} {w : World} (hid : id < 1000000) (H : c1.wpIn (wd none) n P (QW P M kn kr (fun j t h => Bool.casesOn (Nat.beq j id) (kx j t h) (kn t h)) e h w) a w) :
    (Code.block id c1).wpIn (wd none) n P (QW P M kn kr kx e h w) a w := by
  refine wpIn_block (wpIn_mono H ?_)
  intro ex a' w' hq
  obtain ⟨k, hk1, e', h', t', i1, i2, i3⟩ := hq
  cases ex with
  | normal => cases hk1; exact ⟨_, rfl, e', h', t', i1, i2, i3⟩
  | exit j =>
    simp only [kB] at hk1
    split at hk1
    · rename_i hj
      cases hk1
      simp only [Exit.inBlock]
      by_cases hji : j = id
      · rw [if_pos hji]
        have hb : Nat.beq j id = true := by rw [hji]; simp
        simp only [hb] at i3
        exact ⟨kn, rfl, e', h', t', i1, i2, i3⟩
      · rw [if_neg hji]
        have hb : Nat.beq j id = false := by
          cases hb : Nat.beq j id with
          | false => rfl
          | true => exact absurd (nat_eq hb) hji
        simp only [hb] at i3
        exact ⟨kx j, by simp only [kB, if_pos hj], e', h', t', i1, i2, i3⟩
    · cases hk1
  | goto l =>
    simp only [kB, Option.some.injEq] at hk1
    subst hk1
    simp only [Exit.inBlock]
    have hb : Nat.beq (goId l) id = false := by
      cases hb : Nat.beq (goId l) id with
      | false => rfl
      | true => have := nat_eq hb; unfold goId at this; omega
    simp only [hb] at i3
    exact ⟨kx (goId l), rfl, e', h', t', i1, i2, i3⟩
  | ret => cases hk1; exact ⟨_, rfl, e', h', t', i1, i2, i3⟩
  | panic c => cases hk1
  | outgrown => cases hk1
theorem exW_snd (hNM : N ≤ M) (HC : CalOk Y P κ cal) (hk : ∀ N c d, compC Y P N c = some d → d.smp = true → ∀ M, N ≤ M → κ.k M c d) (HD : DrwOk Y P N M κ cal none n) (sh : Sh) : ∀ (j : WJ) (c : Code), compW Y P N sh c = some j →
    ∀ (t : T) (h : Hp) (kn kr : KB) (kx : Nat → KB), exW j cal t h kn kr kx = true → ∀ (e : Env) (a : Act) (w : World), St0 Y P M κ e h t a w → c.wpIn (wd none) n P (QW P M kn kr kx e h w) a w := by
  induction sh with
  | f =>
    intro j c hc t h kn kr kx hr e a w S
    cases hd : compC Y P N c with
    | none => simp [compW, hd] at hc
    | some d =>
    simp only [compW, hd, Option.map_some, Option.some.injEq] at hc
    subst hc
    obtain ⟨r, hr⟩ := isS_out (show isS (exD d cal t h (bK kn) (bK kr) fun j => bK (kx j)) = true from hr)
    refine wpIn_mono (exD_snd hNM HC hk c d hd none HD (.inl rfl) t h _ _ _ r hr e a w S) ?_
    intro ex a' w' hq
    obtain ⟨k, hk1, e', h', t', i1, i2, r', i3, _⟩ := hq.out
    obtain ⟨k', hk2, rfl⟩ := kB_of hk1
    exact ⟨k', hk2, e', h', t', i1, i2, bK_out i3⟩
  | s s1 s2 ih1 ih2 =>
    intro j c hc t h kn kr kx hr e a w S
    cases c <;> first | (simp [compW] at hc; done) | skip
    rename_i c1 c2
    simp only [compW] at hc
    split at hc
    rotate_left
    · cases hc
    rename_i x y h1 h2
    cases hc
    have hr : exW x cal t h (fun t h => exW y cal t h kn kr kx) kr kx = true := hr
    refine wpIn_seq (wpIn_mono (ih1 x c1 h1 t h _ kr kx hr e a w S) ?_)
    intro ex a' w' hq
    cases ex with
    | normal =>
      obtain ⟨k, hk1, e', h', t', i1, i2, i3⟩ := hq
      cases hk1
      exact wpIn_mono (ih2 y c2 h2 t' h' kn kr kx i3 e' a' w' (S.step i1 i2)) fun ex a2 w2 hq2 => hq2.step i1
    | exit id => exact hq
    | goto l => exact hq
    | ret => exact hq
    | panic c => exact hq
    | outgrown => exact hq
  | c s1 s2 ih1 ih2 =>
    intro j c hc t h kn kr kx hr e a w S
    cases c <;> first | (simp [compW] at hc; done) | skip
    rename_i x0 c1 c2
    simp only [compW] at hc
    split at hc
    rotate_left
    · cases hc
    rename_i x p q h0 h1 h2
    cases hc
    rcases ubK_out (show ubK (ev t x) _ _ = true from hr) with ⟨b, hb, hr⟩ | ⟨hb, hr⟩
    · obtain ⟨e1, _⟩ := ev_eq (S.ts.ot S.gl fun _ => True) (x := x0) trivial h0 hb (by simp) rfl
      refine wpIn_cond e1 ?_
      cases b
      · exact ih2 q c2 h2 t h kn kr kx hr e a w S
      · exact ih1 p c1 h1 t h kn kr kx hr e a w S
    · obtain ⟨hr1, hr2⟩ := and_t hr
      obtain ⟨_, e2⟩ := ev_is (S.ts.ot S.gl fun _ => True) (x := x0) trivial h0
      rw [hb] at e2
      have : ∃ b, a.eval x0 = .bool b := by
        rcases e2 with e2 | e2 | ⟨e2, _⟩ | ⟨_, e2⟩
        · cases e2
        · exact ⟨false, e2⟩
        · cases e2
        · exact e2
      obtain ⟨b, e1⟩ := this
      refine wpIn_cond e1 ?_
      cases b
      · exact ih2 q c2 h2 t h kn kr kx hr2 e a w S
      · exact ih1 p c1 h1 t h kn kr kx hr1 e a w S
  | b s1 ih1 =>
    intro j c hc t h kn kr kx hr e a w S
    cases c <;> first | (simp [compW] at hc; done) | skip
    rename_i id c1
    simp only [compW] at hc
    split at hc
    rotate_left
    · cases hc
    rename_i hid
    cases h1 : compW Y P N s1 c1 with
    | none => simp [h1] at hc
    | some x =>
    simp only [h1, Option.map_some, Option.some.injEq] at hc
    subst hc
    have hr : exW x cal t h kn kr (fun j t h => Bool.casesOn (Nat.beq j id) (kx j t h) (kn t h)) = true := hr
    exact blk_QW hid (ih1 x c1 h1 t h kn kr _ hr e a w S)
end
structure LS where
  live : List (Pth × V)
  h : Hp
noncomputable def tU : T := ⟨e8 (e8 .u), e8 (e8 (e8 .u)), []⟩
noncomputable def LS.t (s : LS) : T := List.rec tU (fun x _ ih => Prod.rec (fun p v => st vu p v ih) x) s.live
noncomputable def lvB (l : List (Pth × V)) (t : T) : Bool := List.rec true (fun x _ ih => and (Prod.rec (fun p v => vEq v (gtV p t)) x) ih) l
noncomputable def dfE (h : Hp) : Bool := Hp.rec (fun _ _ _ _ fz df ch => and (Nat.beq fz 0) (and (Bool.not ch) (List.rec true (fun _ _ _ => false) df))) h
noncomputable def fitB (s : LS) (t : T) (h : Hp) : Bool := and (lvB s.live t) (and (Nat.ble s.h.n.n h.n.n) (and (dfE h) (trEq s.h.n.n s.h.b h.b)))
noncomputable def inL (l : List LS) : KB := fun t h => List.rec false (fun s _ ih => or (fitB s t h) ih) l
noncomputable def okL (s : LS) : Bool := and (s.live.all fun x => x.2.rf (Pth.ok s.h.n.n)) (and (dfE s.h) (blB s.h.n.n (fun r b => bRf (escM s.h.n.n s.h.er s.h.eq r) b) s.h.b))
noncomputable def verC (j : WJ) (cal : Cal) (kr : KB) (kx : Nat → KB) (l2 l : List LS) : Bool :=
  List.rec true (fun s rest ih => and (and (okL s) (exW j cal s.t s.h (fun t h => or (inL rest t h) (inL l2 t h)) kr kx)) ih) l
def Ver (j : WJ) (cal : Cal) (kr : KB) (kx : Nat → KB) : List LS → Prop
  | [] => True
  | s :: rest => (okL s = true ∧ exW j cal s.t s.h (inL rest) kr kx = true) ∧ Ver j cal kr kx rest
theorem inL_cons (s : LS) (l : List LS) (t : T) (h : Hp) : inL (s :: l) t h = or (fitB s t h) (inL l t h) := rfl
theorem inL_app (l l2 : List LS) (t : T) (h : Hp) : inL (l ++ l2) t h = or (inL l t h) (inL l2 t h) := by
  induction l with
  | nil => rfl
  | cons s l ih => rw [List.cons_append, inL_cons, inL_cons, ih, Bool.or_assoc]
theorem verC_ver {j : WJ} {cal : Cal} {kr : KB} {kx : Nat → KB} {l2 : List LS} : ∀ {l : List LS}, verC j cal kr kx l2 l = true → Ver j cal kr kx l2 → Ver j cal kr kx (l ++ l2)
  | [], _, h2 => h2
  | s :: l, h, h2 => by
    obtain ⟨h1, h3⟩ := and_t (show and (and (okL s) (exW j cal s.t s.h (fun t h => or (inL l t h) (inL l2 t h)) kr kx)) (verC j cal kr kx l2 l) = true from h)
    obtain ⟨h1, h4⟩ := and_t h1
    refine ⟨⟨h1, ?_⟩, verC_ver h3 h2⟩
    have e : (inL (l ++ l2)) = fun t h => or (inL l t h) (inL l2 t h) := funext fun t => funext fun h => inL_app l l2 t h
    show exW j cal s.t s.h (inL (l ++ l2)) kr kx = true
    rw [e]; exact h4
theorem Step.trim2 {e e' : Env} {h h' hs : Hp} {w w' : World} (T : Step e h w e' h' w') (h1 : h.n.n ≤ hs.n.n) (h2 : hs.n.n ≤ h'.n.n) (hat : ∀ r : Pth, r.n < hs.n.n → h'.at r = hs.at r)
    (hb : ∀ r : Pth, r.n < hs.n.n → (hs.at r).rf (escM hs.n.n hs.er hs.eq r.n) = true) (hfz : hs.fz = h'.fz) (hch : hs.ch = h'.ch) : Step e h w e' hs w' := by
  have hlt : ∀ r : Pth, r.n < hs.n.n → r.n < h'.n.n := fun r hr => by omega
  refine ⟨⟨fun r hr => by rw [← hat r hr]; exact T.rel.ok r (hlt r hr), fun r r' hr hr' => by rw [← hat r hr, ← hat r' hr']; exact T.rel.sep r r' (hlt r hr) (hlt r' hr'), fun r hr => ?_, fun r hr => ?_⟩, hfz.trans T.fz, hch.trans T.ch, T.agr, h1, T.os, T.tape, T.output, T.size, T.keep, fun r hr => by rw [← hat r hr]; exact T.mine r (hlt r hr), fun r hr => by rw [← hat r hr]; exact T.nd r (hlt r hr)⟩
  · exact B.rf_mono (fun p hp => (and_t hp).1) (hb r hr)
  · exact B.rf_mono (fun p hp => (and_t hp).2) (hb r hr)
theorem dfE_out {h : Hp} (H : dfE h = true) : h.fz = 0 ∧ h.ch = false ∧ h.df = [] := by
  obtain ⟨b, n, er, eq, fz, df, ch⟩ := h
  obtain ⟨h1, h2⟩ := and_t (show and (Nat.beq fz 0) (and (Bool.not ch) (List.rec true (fun _ _ _ => false) df)) = true from H)
  obtain ⟨h2, h3⟩ := and_t h2
  refine ⟨nat_eq h1, by revert h2; cases ch <;> intro h2 <;> first | rfl | (cases h2; done), ?_⟩
  cases df with
  | nil => rfl
  | cons _ _ => cases h3
theorem lvB_cons (p : Pth) (v : V) (l : List (Pth × V)) (t : T) : lvB ((p, v) :: l) t = and (vEq v (gtV p t)) (lvB l t) := rfl
theorem LS.t_cons (p : Pth) (v : V) (l : List (Pth × V)) (h : Hp) : (LS.mk ((p, v) :: l) h).t = st vu p v (LS.mk l h).t := rfl
theorem gt_tU (p : Pth) : gt vu p tU = .u ∨ (576 ≤ p.n ∧ gt vu p tU = vu) := by
  cases p with
  | s i j => refine .inl ?_; show ((e8 (e8 V.u)).g i).g j = .u; rw [N8.g_e8, N8.g_e8]
  | t i j k => refine .inl ?_; show (((e8 (e8 (e8 V.u))).g i).g j).g k = .u; rw [N8.g_e8, N8.g_e8, N8.g_e8]
  | o n => exact .inr ⟨by rw [Pth.n_o]; omega, rfl⟩
theorem live_tr {e : Env} {tm : Array Value} {t : T} (hM : tm.size ≤ 576) (hT : TR e t tm) : ∀ (l : List (Pth × V)) (h : Hp), lvB l t = true → TR e (LS.mk l h).t tm
  | [], h, _, p => by
    rcases gt_tU p with k | ⟨k1, k2⟩
    · exact .inl k
    · refine .inr ?_
      show Is e (gt vu p tU) _
      rw [k2]
      have : tm.getD p.n undef = undef := by rw [Array.getD_eq_getD_getElem?, Array.getElem?_eq_none (by omega)]; rfl
      rw [this]; exact .inl rfl
  | (q, v) :: l, h, hl, p => by
    obtain ⟨h1, h2⟩ := and_t (show and (vEq v (gtV q t)) (lvB l t) = true from hl)
    have hv := vEq_eq h1
    rw [gtV_eq] at hv
    rw [LS.t_cons, gt_st]
    by_cases hp : p = q
    · rw [if_pos hp, hp, hv]; exact hT q
    · rw [if_neg hp]; exact live_tr hM hT l h h2 p
theorem live_rf {f : Pth → Bool} : ∀ (l : List (Pth × V)) (h : Hp), (l.all fun x => x.2.rf f) = true → (LS.mk l h).t.rf f = true
  | [], h, _ => Tr.rf_iff.2 fun p => by
    show (gt vu p tU).rf f = true
    rcases gt_tU p with k | ⟨_, k⟩
    · rw [k]; rfl
    · rw [k]; rfl
  | (q, v) :: l, h, hl => by
    simp only [List.all_cons, Bool.and_eq_true] at hl
    rw [LS.t_cons]
    exact Tr.rf_st (live_rf l h hl.2) hl.1
section
variable {Y : Lay} {P : Program} {N M : Nat} {κ : KP} {cal : Cal} {n : Nat}
theorem fit_st {s : LS} {t : T} {h h0 : Hp} {e0 e : Env} {a : Act} {w0 w : World} (hM : M ≤ 576) (hok : okL s = true) (hf : fitB s t h = true) (hn : h0.n.n ≤ s.h.n.n) (D : Step e0 h0 w0 e h w) (S : St0 Y P M κ e h t a w) (hg : ∀ g p, Y.g = some (g, p) → Pth.ok s.h.n.n p = true) :
    Step e0 h0 w0 e s.h w ∧ St0 Y P M κ e s.h s.t a w := by
  obtain ⟨f1, f2⟩ := and_t hf
  obtain ⟨f2, f3⟩ := and_t f2
  obtain ⟨f3, f4⟩ := and_t f3
  obtain ⟨o1, o2⟩ := and_t hok
  obtain ⟨o2, o3⟩ := and_t o2
  obtain ⟨d1, d2, d3⟩ := dfE_out f3
  obtain ⟨g1, g2, g3⟩ := dfE_out o2
  have hle := nat_le f2
  have hat : ∀ r : Pth, r.n < s.h.n.n → h.at r = s.h.at r := fun r hr => (trEq_eq r f4 hr).symm
  have hb : ∀ r : Pth, r.n < s.h.n.n → (s.h.at r).rf (escM s.h.n.n s.h.er s.h.eq r.n) = true := fun r hr => bRf_rf (blB_at o3 r hr)
  have D1 : Step e0 h0 w0 e s.h w := D.trim2 hn hle hat hb (by rw [g1, d1]) (by rw [g2, d2])
  refine ⟨D1, S.κ, D1.rel, fun g p hp => ⟨hg g p hp, (S.gl g p hp).2⟩, S.ts.size, live_tr (by rw [S.ts.size]; exact hM) S.ts.tr s.live s.h f1, live_rf s.live s.h o1, ?_⟩
  have := S.ts.df
  rw [d3] at this
  rw [g3, dfR_nil this]; exact All2.nil
theorem loopW (hNM : N ≤ M) (hM : M ≤ 576) (HC : CalOk Y P κ cal) (hk : ∀ N c d, compC Y P N c = some d → d.smp = true → ∀ M, N ≤ M → κ.k M c d) (HD : DrwOk Y P N M κ cal none n) {sh : Sh} {j : WJ} {c : Code} (hc : compW Y P N sh c = some j) {kr : KB} {kx : Nat → KB} {kn : KB} (hg : ∀ g p, Y.g = some (g, p) → p = .z) {e0 : Env} {h0 : Hp} {w0 : World} :
    ∀ (l : List LS), (∀ s ∈ l, h0.n.n ≤ s.h.n.n ∧ 0 < s.h.n.n) → Ver j cal kr kx l → ∀ (t : T) (h : Hp), inL l t h = true → ∀ (e : Env) (a : Act) (w : World), Step e0 h0 w0 e h w → St0 Y P M κ e h t a w → LoopR none P c (QW P M kn kr kx e0 h0 w0) a w
  | [], _, _, t, h, hl, _, _, _, _, _ => by cases hl
  | s :: l, hz, hv, t, h, hl, e, a, w, D, S => by
    obtain ⟨⟨v1, v2⟩, v3⟩ := hv
    have hz' : ∀ s ∈ l, h0.n.n ≤ s.h.n.n ∧ 0 < s.h.n.n := fun x hx => hz x (List.mem_cons_of_mem _ hx)
    rw [inL_cons, Bool.or_eq_true] at hl
    rcases hl with hl | hl
    · obtain ⟨z1, z2⟩ := hz s List.mem_cons_self
      obtain ⟨D1, S1⟩ := fit_st hM v1 hl z1 D S (fun g p hp => by rw [hg g p hp]; exact Pth.ok_iff.2 z2)
      refine atR_of_round (n := n) (wpIn_mono (exW_snd hNM HC hk HD sh j c hc s.t s.h (inL l) kr kx v2 e a w S1) ?_)
      intro ex a' w' hq
      cases ex with
      | normal =>
        obtain ⟨k, hk1, e', h', t', i1, i2, i3⟩ := hq
        cases hk1
        exact loopW hNM hM HC hk HD hc hg l hz' v3 t' h' i3 e' a' w' (D1.trans i1) (S1.step i1 i2)
      | exit id => exact QW.step D1 hq
      | goto l => exact QW.step D1 hq
      | ret => exact QW.step D1 hq
      | panic c => exact QW.step D1 hq
      | outgrown => exact QW.step D1 hq
    · exact loopW hNM hM HC hk HD hc hg l hz' v3 t h hl e a w D S
end
def seqs : List Code → Code → Code
  | [], z => z
  | x :: l, z => .seq x (seqs l z)
def compWs (Y : Lay) (P : Program) (N : Nat) : List Sh → List Code → Option (List WJ)
  | [], [] => some []
  | s :: ss, c :: cs => match compW Y P N s c, compWs Y P N ss cs with
    | some j, some js => some (j :: js)
    | _, _ => none
  | _, _ => none
def cp1 : Code → Code
  | .seq a _ => a
  | .block _ c => c
  | .loop c => c
  | c => c
def cp2 : Code → Code
  | .seq _ b => b
  | c => c
def bodyOf (fn : Func) : Code := match fn.body with
  | some c => c
  | none => .skip
noncomputable def dp1 (d : DJ) : DJ := DJ.rec (motive := fun _ => DJ) .skip (fun _ => .skip) (fun _ => .skip) (fun a _ _ _ => a) (fun _ _ _ _ _ => .skip) (fun _ c _ => c) (fun c _ => c) (fun _ => .skip) .skip (fun _ _ _ _ _ _ => .skip) (fun _ _ _ => .skip) d
noncomputable def dp2 (d : DJ) : DJ := DJ.rec (motive := fun _ => DJ) .skip (fun _ => .skip) (fun _ => .skip) (fun _ b _ _ => b) (fun _ _ _ _ _ => .skip) (fun _ _ _ => .skip) (fun _ _ => .skip) (fun _ => .skip) .skip (fun _ _ _ _ _ _ => .skip) (fun _ _ _ => .skip) d
noncomputable def fb (F : FJ) : DJ := FJ.rec (fun _ b _ => b) F
noncomputable def fr (F : FJ) : List RV := FJ.rec (fun _ _ r => r) F
noncomputable def exWs (js : List WJ) (cal : Cal) (kr : KB) (kx : Nat → KB) (k : KB) : KB := List.rec (motive := fun _ => KB) k (fun j _ ih t h => exW j cal t h ih kr kx) js
noncomputable def noB : KB := fun _ _ => false
noncomputable def kF (res : List RV) (v : V) : KB := fun t h => Hp.rec (fun b n er eq fz df ch => List.rec (isS (rvsK t (Hp.mk b n er eq fz [] ch) res fun vs => resK vs fun u => onB (vEq u v) (some (u, hD)) none)) (fun _ _ _ => false) df) h
noncomputable def kxZ (b : Nat) (jZ : WJ) (cal : Cal) (k : KB) : Nat → KB := fun j t h => Bool.rec false (exW jZ cal t h k k fun _ => noB) (Nat.beq j b)
noncomputable def iniB (A : List V) (k : KB) (h : Hp) : Bool := isS (iniK A .z tE fun t => bK k t h)
section
variable {Y : Lay} {P : Program} {N M : Nat} {κ : KP} {cal : Cal} {n : Nat}
theorem pre_list (hNM : N ≤ M) (HC : CalOk Y P κ cal) (hk : ∀ N c d, compC Y P N c = some d → d.smp = true → ∀ M, N ≤ M → κ.k M c d) (HD : DrwOk Y P N M κ cal none n) {kr k : KB} {kx : Nat → KB} {z : Code} {kn : KB} {e0 : Env} {h0 : Hp} {w0 : World}
    (Hz : ∀ (e : Env) (h : Hp) (t : T) (a : Act) (w : World), Step e0 h0 w0 e h w → St0 Y P M κ e h t a w → k t h = true → z.wpIn (wd none) n P (QW P M kn kr kx e0 h0 w0) a w) :
    ∀ (l : List Code) (ss : List Sh) (js : List WJ), compWs Y P N ss l = some js → ∀ (e : Env) (h : Hp) (t : T) (a : Act) (w : World), exWs js cal kr kx k t h = true → Step e0 h0 w0 e h w → St0 Y P M κ e h t a w → (seqs l z).wpIn (wd none) n P (QW P M kn kr kx e0 h0 w0) a w
  | [], [], js, hc, e, h, t, a, w, hr, D, S => by
    simp only [compWs, Option.some.injEq] at hc
    subst hc
    exact Hz e h t a w D S hr
  | [], _ :: _, js, hc, e, h, t, a, w, hr, D, S => by simp [compWs] at hc
  | _ :: _, [], js, hc, e, h, t, a, w, hr, D, S => by simp [compWs] at hc
  | x :: l, s :: ss, js, hc, e, h, t, a, w, hr, D, S => by
    simp only [compWs] at hc
    split at hc
    rotate_left
    · cases hc
    rename_i j js' h1 h2
    cases hc
    have hr : exW j cal t h (exWs js' cal kr kx k) kr kx = true := hr
    refine wpIn_seq (wpIn_mono (exW_snd hNM HC hk HD s j x h1 t h _ kr kx hr e a w S) ?_)
    intro ex a' w' hq
    cases ex with
    | normal =>
      obtain ⟨k1, hk1, e', h', t', i1, i2, i3⟩ := hq
      cases hk1
      exact pre_list hNM HC hk HD Hz l ss js' h2 e' h' t' a' w' i3 (D.trans i1) (S.step i1 i2)
    | exit id => exact QW.step D hq
    | goto l => exact QW.step D hq
    | ret => exact QW.step D hq
    | panic c => exact QW.step D hq
    | outgrown => exact QW.step D hq
end
section
variable {Y : Lay} {P : Program} {ζ : (Nat → Int) × Nat} {prog : Tr FJ} {nat : Cal}
theorem law_loopG (hm : P.follows .mixedOrders = true) (HP : ProgOk Y P prog) (HN : CalOk Y P (kp Y P ζ) nat) (hY : ∀ g p, Y.g = some (g, p) → p = .z) {e0 : Env} {h0 : Hp} {W : World} (hκ0 : EK e0 (kp Y P ζ)) (hR : Rel e0 h0 W) (hG : Gl Y e0 (Pth.ok h0.n.n)) (hro : ∀ r : Pth, r.n < h0.n.n → (h0.at r).rw = false) (hdf0 : h0.df = []) (hn0 : 0 < h0.n.n)
    {f : Nat} {fn : Func} (hfn : P.funcs[f]? = some fn) {res : List RV} (hres : compR P fn.results.toList = some res) {l : List Code} {I B Z : Code} {b : Nat} (hcode : fn.body = some (seqs l (.seq (.seq I (.block b (.loop B))) Z)))
    {ss : List Sh} {js : List WJ} (hl : compWs Y P fn.ntmps ss l = some js) {sI sB sZ : Sh} {jI jB jZ : WJ} (hI : compW Y P fn.ntmps sI I = some jI) (hB : compW Y P fn.ntmps sB B = some jB) (hZ : compW Y P fn.ntmps sZ Z = some jZ) (hbid : b < 1000000)
    {A : List V} {n : Nat} {v : V} {S : List LS} (hrun : iniB A (exWs js (calM prog nat n) (kF res v) (fun _ => noB) fun t h => exW jI (calM prog nat n) t h (inL S) (kF res v) fun _ => noB) h0 = true)
    (hver : Ver jB (calM prog nat n) (kF res v) (kxZ b jZ (calM prog nat n) (kF res v)) S) (hS : ∀ s ∈ S, h0.n.n ≤ s.h.n.n) (hN : fn.ntmps ≤ 576)
    {args : Array Value} (hA : Iss e0 A args.toList) (hAl : args.size ≤ 576) (hAf : A.all (V.rf (Pth.ok h0.n.n)) = true) (hv : v.rf noR = true) (hu : v ≠ .u) (hnu : v.nU = true) :
    Calls P f args W fun e W' => e = .returned (v.tr e0) ∧ Still W W' := by
  have HC := calM_ok hm HP HN n
  have hk : ∀ N c d, compC Y P N c = some d → d.smp = true → ∀ M, N ≤ M → (kp Y P ζ).k M c d := kapE_hk Y P
  refine (callsIn_wide (n := 0)).1 (callsIn_of_wp_marks hfn hcode trivial ?_)
  obtain ⟨M, hM⟩ : ∃ M, M = (args ++ Array.replicate (fn.ntmps - args.size) undef).size := ⟨_, rfl⟩
  have hNM : fn.ntmps ≤ M := by rw [hM]; simp; omega
  have hM5 : M ≤ 576 := by rw [hM]; simp; omega
  have HD : DrwOk Y P fn.ntmps M (kp Y P ζ) (calM prog nat n) none 0 := drw_snd hm HC hNM
  have eargs : args.toList.toArray = args := Array.toArray_toList
  have hS0 : St0 Y P M (kp Y P ζ) e0 h0 (iniT A .z tE) { tmps := args ++ Array.replicate (fn.ntmps - args.size) undef, defers := [] } W := by
    refine ⟨hκ0, hR, hG, ⟨hM.symm, ?_, iniT_rf hAf Tr.rf_e, by rw [hdf0]; exact All2.nil⟩⟩
    have := ini_tr hA (fn.ntmps - args.size); rw [eargs] at this; exact this
  have hrun1 : exWs js (calM prog nat n) (kF res v) (fun _ => noB) (fun t h => exW jI (calM prog nat n) t h (inL S) (kF res v) fun _ => noB) (iniT A .z tE) h0 = true := by
    obtain ⟨r, hr⟩ := isS_out hrun
    rw [iniK_eq] at hr
    exact bK_out hr
  have hg := hY
  have H := pre_list hNM HC hk HD (kr := kF res v) (kx := fun _ => noB) (kn := kF res v) (z := .seq (.seq I (.block b (.loop B))) Z) (e0 := e0) (h0 := h0) (w0 := W) (fun e h t a w D S0 hk1 => by
    refine wpIn_seq (wpIn_seq (wpIn_mono (exW_snd hNM HC hk HD sI jI I hI t h _ _ _ hk1 e a w S0) ?_))
    intro ex a' w' hq
    cases ex with
    | normal =>
      obtain ⟨k1, hk1, e', h', t', i1, i2, i3⟩ := hq
      cases hk1
      have D' := D.trans i1
      have S' := S0.step i1 i2
      have L := loopW (kn := noB) hNM hM5 HC hk HD hB (kr := kF res v) (kx := kxZ b jZ (calM prog nat n) (kF res v)) hg (e0 := e0) (h0 := h0) (w0 := W) S (fun s hs => ⟨hS s hs, Nat.lt_of_lt_of_le hn0 (hS s hs)⟩) hver t' h' i3 e' a' w' D' S'
      have Lw := loopR_of_at (n := 0) L
      have key : ∀ ex a2 w2, QW P M noB (kF res v) (kxZ b jZ (calM prog nat n) (kF res v)) e0 h0 W ex a2 w2 → Exit.inBlock b (Exit.then (fun a w => Z.wpIn (wd none) 0 P (QW P M (kF res v) (kF res v) (fun _ => noB) e0 h0 W) a w) (QW P M (kF res v) (kF res v) (fun _ => noB) e0 h0 W)) ex a2 w2 := by
        intro ex a2 w2 hq
        obtain ⟨k1, hk1, e2, h2, t2, j1, j2, j3⟩ := hq
        cases ex with
        | normal => cases hk1; cases j3
        | ret => cases hk1; exact ⟨_, rfl, e2, h2, t2, j1, j2, j3⟩
        | exit j =>
          simp only [kB] at hk1
          split at hk1
          · rename_i hj
            cases hk1
            have j3 : (Bool.rec false (exW jZ (calM prog nat n) t2 h2 (kF res v) (kF res v) fun _ => noB) (Nat.beq j b) : Bool) = true := j3
            cases hb : Nat.beq j b with
            | false => rw [hb] at j3; cases j3
            | true =>
              rw [hb] at j3
              have := nat_eq hb
              simp only [Exit.inBlock, if_pos this]
              exact wpIn_mono (exW_snd hNM HC hk HD sZ jZ Z hZ t2 h2 _ _ _ j3 e2 a2 w2 (hS0.step j1 j2)) fun ex a3 w3 hq3 => hq3.step j1
          · cases hk1
        | goto lb =>
          simp only [kB, Option.some.injEq] at hk1
          subst hk1
          have j3 : (Bool.rec false (exW jZ (calM prog nat n) t2 h2 (kF res v) (kF res v) fun _ => noB) (Nat.beq (goId lb) b) : Bool) = true := j3
          cases hb : Nat.beq (goId lb) b with
          | false => rw [hb] at j3; cases j3
          | true => have := nat_eq hb; unfold goId at this; omega
        | panic c => cases hk1
        | outgrown => cases hk1
      exact wpIn_block (wpIn_mono Lw key)
    | exit id => exact QW.step D hq
    | goto l => exact QW.step D hq
    | ret => exact QW.step D hq
    | panic c => exact QW.step D hq
    | outgrown => exact QW.step D hq) l ss js hl e0 h0 (iniT A .z tE) _ W hrun1 (.refl hR) hS0
  refine wpIn_mono H ?_
  rintro ex a' w' ⟨k1, hk1, e', h', t', i1, i2, i3⟩
  have hfin : kF res v t' h' = true → LeavesInM Fence.wide 0 P fn a'.tmps (fun e W' => e = .returned (v.tr e0) ∧ Still W W') a'.defers .returning w' := fun i3 => by
    obtain ⟨b', n', er', eq', fz', df', ch'⟩ := h'
    cases df' with
    | cons _ _ => cases i3
    | nil =>
      obtain ⟨r', hr'⟩ := isS_out (show isS (rvsK t' (Hp.mk b' n' er' eq' fz' [] ch') res fun vs => resK vs fun u => onB (vEq u v) (some (u, hD)) none) = true from i3)
      obtain ⟨u, x, j1, j2, j3, j4⟩ := results_run i1.rel i2.tr i2.rf hres hr'
      obtain ⟨j1, _⟩ := onB_t j1
      have := vEq_eq j1
      subst this
      have hd := dfR_nil i2.df
      rw [hd]
      have AF : AgrF noR e' e0 := ⟨fun r hr => (by cases hr), fun r hr => (by cases hr), i1.agr.ρ.symm, i1.agr.β.symm⟩
      have hx : x = u.tr e0 := by
        rcases AF.isu hv j3 with h | h
        · exact absurd h hu
        · exact h.eq hnu
      exact ⟨x, j2, by rw [hx], i1.os, i1.output, fun b hb => i1.keep b hb fun r hr hw => by rw [hro r hr] at hw; cases hw⟩
  cases ex with
  | normal => cases hk1; exact hfin i3
  | ret => cases hk1; exact hfin i3
  | exit id =>
    simp only [kB] at hk1
    split at hk1
    · cases hk1; cases i3
    · cases hk1
  | goto lb => cases hk1; cases i3
  | panic c => cases hk1
  | outgrown => cases hk1
theorem law_loop (hm : P.follows .mixedOrders = true) (HP : ProgOk Y P prog) (HN : CalOk Y P (kp Y P ζ) nat) {g : Nat} (hY : Y.g = some (g, .z)) {tab : List S} {W : World} (hlt : g < W.heap.size) (hc : ∀ (i : Nat) s, tab[i]? = some s → W.cell? ⟨g, i, none⟩ = some (s.tr (env0 Y P g ζ))) (hf : tab.all (S.rf noR) = true)
    {f : Nat} {fn : Func} (hfn : P.funcs[f]? = some fn) {res : List RV} (hres : compR P fn.results.toList = some res) {l : List Code} {I B Z : Code} {b : Nat} (hcode : fn.body = some (seqs l (.seq (.seq I (.block b (.loop B))) Z)))
    {ss : List Sh} {js : List WJ} (hl : compWs Y P fn.ntmps ss l = some js) {sI sB sZ : Sh} {jI jB jZ : WJ} (hI : compW Y P fn.ntmps sI I = some jI) (hB : compW Y P fn.ntmps sB B = some jB) (hZ : compW Y P fn.ntmps sZ Z = some jZ) (hbid : b < 1000000)
    {A : List V} {n : Nat} {v : V} {S : List LS} (hrun : iniB A (exWs js (calM prog nat n) (kF res v) (fun _ => noB) fun t h => exW jI (calM prog nat n) t h (inL S) (kF res v) fun _ => noB) (heap0 tab) = true)
    (hver : Ver jB (calM prog nat n) (kF res v) (kxZ b jZ (calM prog nat n) (kF res v)) S) (hS : ∀ s ∈ S, 0 < s.h.n.n) (hN : fn.ntmps ≤ 576)
    {args : Array Value} (hA : Iss (env0 Y P g ζ) A args.toList) (hAl : args.size ≤ 576) (hAf : A.all (V.rf noR) = true) (hv : v.rf noR = true) (hu : v ≠ .u) (hnu : v.nU = true) :
    Calls P f args W fun e W' => e = .returned (v.tr (env0 Y P g ζ)) ∧ Still W W' :=
  law_loopG hm HP HN (fun g' p hp => by rw [hY] at hp; cases hp; rfl) ⟨rfl, rfl, rfl⟩ (rel0 hlt hc hf) (fun g' p hg => by rw [hY] at hg; cases hg; exact ⟨rfl, rfl⟩) (fun r hr => by rw [(heap0_at r hr).2]; rfl) rfl (by show 0 < 1; omega)
    hfn hres hcode hl hI hB hZ hbid hrun hver hS hN hA hAl (by
      simp only [List.all_eq_true] at hAf ⊢
      exact fun x hx => V.rf_mono (fun p hp => by cases hp) (hAf x hx)) hv hu hnu
end
noncomputable def rbG (b : B) (c : Nat → Ans) : Ans := B.rec none (fun _ => none) (fun _ => none) (fun _ _ _ => none) (fun _ _ _ _ => none) (fun _ _ => none) (fun _ => none) (fun _ _ _ _ => none) (fun _ _ _ _ _ _ => none) none (fun _ => none) c b
theorem rbG_some {b : B} {c : Nat → Ans} {r : RES} (h : rbG b c = some r) : ∃ n, b = .rb n ∧ c n = some r := by
  cases b <;> first | exact ⟨_, rfl, h⟩ | cases h
noncomputable def hideC (q : Pth) (cal : Cal) : Cal := fun s args h => onB (Nat.blt q.n h.n.n) (rbG (h.gb q) fun m => h.setK q .dd fun h0 => onO (cal s args h0) fun r => Prod.rec (fun v h' => h'.setK q (.rb m) fun h' => some (v, h')) r) none
theorem Rel.hide {e : Env} {h : Hp} {w : World} {q : Pth} (H : Rel e h w) : Rel e (h.set q .dd) w := by
  have hd : ∀ p, (h.set q .dd).at p ≠ .dd → h.at p ≠ .dd := fun p hp => by
    rw [Hp.at_set] at hp; split at hp
    · exact absurd rfl hp
    · exact hp
  have hw : ∀ p, ((h.set q .dd).at p).rw = true → (h.at p).rw = true := fun p hp => by
    rw [Hp.at_set] at hp; split at hp
    · cases hp
    · exact hp
  refine ⟨fun p hp => ?_, fun p p' hp hp' hne h1 h2 => H.sep p p' hp hp' hne (hw p h1) (hd p' h2), fun p hp => ?_, fun p hp => ?_⟩
  · rw [Hp.at_set]; split
    · trivial
    · exact H.ok p hp
  · rw [Hp.at_set]; split
    · rfl
    · exact H.val p hp
  · rw [Hp.at_set]; split
    · rfl
    · exact H.esc p hp
theorem hideC_ok {Y : Lay} {P : Program} {κ : KP} {cal : Cal} {q : Pth} (HC : CalOk Y P κ cal) : CalOk Y P κ (hideC q cal) := fun s args h z hz e w xs hκ hR hG hs hf hx => by
  obtain ⟨hq, hz⟩ := onB_t (show onB (Nat.blt q.n h.n.n) _ none = some z from hz)
  have hq := nat_lt hq
  obtain ⟨m, hm, hz⟩ := rbG_some hz
  rw [Hp.gb_eq] at hm
  rw [Hp.setK_eq] at hz
  obtain ⟨⟨v, h'⟩, c1, c2⟩ := onO_some hz
  have c2 : (h'.setK q (.rb m) fun h' => some (v, h')) = some z := c2
  rw [Hp.setK_eq] at c2
  cases c2
  have hC := HC s args (h.set q .dd) _ c1 e w xs hκ hR.hide hG hs hf hx
  have ok0 := hR.ok q hq
  rw [hm] at ok0
  obtain ⟨k1, k2⟩ := ok0
  have hnd : h.at q ≠ .dd := by rw [hm]; simp
  refine hC.mono fun x w' ⟨e', T, i2, i3, i4⟩ => ⟨e', ?_, i2, i3, i4⟩
  have hσ : e'.σ q = e.σ q := T.agr.σ q hq
  have hw0 : ∀ p, ((h.set q .dd).at p).rw = true → (h.at p).rw = true ∧ p ≠ q := fun p hp => by
    rw [Hp.at_set] at hp; split at hp
    · cases hp
    · rename_i hne; exact ⟨hp, hne⟩
  have hd0 : ∀ p, (h.set q .dd).at p ≠ .dd → h.at p ≠ .dd := fun p hp => by
    rw [Hp.at_set] at hp; split at hp
    · exact absurd rfl hp
    · exact hp
  have hkeep : w'.heap[(e.σ q).1]? = w.heap[(e.σ q).1]? := T.keep _ k1 fun p hp hw => by
    obtain ⟨g1, g2⟩ := hw0 p hw
    exact hR.sep p q hp hq g2 g1 hnd
  have hat : ∀ p, p ≠ q → (h'.set q (.rb m)).at p = h'.at p := fun p hp => by rw [Hp.at_set, if_neg hp]
  have hatq : (h'.set q (.rb m)).at q = .rb m := by rw [Hp.at_set, if_pos rfl]
  have hap : ∀ p, p.n < h'.n.n → p ≠ q → (h'.at p).rw = true → (e'.σ p).1 ≠ (e'.σ q).1 := fun p hp hne hw => by
    rw [hσ]
    rcases T.mine p hp hw with ⟨p2, j1, j2, j3⟩ | j
    · obtain ⟨g1, g2⟩ := hw0 p2 j2
      rw [← j3]; exact hR.sep p2 q j1 hq g2 g1 hnd
    · omega
  refine ⟨⟨fun p hp => ?_, fun p p' hp hp' hne h1 h2 => ?_, fun p hp => ?_, fun p hp => ?_⟩, T.fz, T.ch, T.agr, T.le, T.os, T.tape, T.output, T.size, fun b hb hn => T.keep b hb fun r hr hw => hn r hr (hw0 r hw).1, fun p hp hw => ?_, fun p hp hw => ?_⟩
  · by_cases hpq : p = q
    · subst hpq
      rw [hatq]
      refine ⟨by rw [hσ]; have := T.size; omega, fun i hi => ?_⟩
      obtain ⟨b, hb⟩ := k2 i hi
      refine ⟨b, ?_⟩
      rw [← hb]
      simp only [adr, hσ]
      exact cell?_blk hkeep
    · rw [hat p hpq]; exact T.rel.ok p hp
  · have hpq : p ≠ q := fun c => by rw [c, hatq] at h1; cases h1
    rw [hat p hpq] at h1
    by_cases hpq' : p' = q
    · rw [hpq']; exact hap p hp hpq h1
    · rw [hat p' hpq'] at h2; exact T.rel.sep p p' hp hp' hne h1 h2
  · by_cases hpq : p = q
    · rw [hpq, hatq]; rfl
    · rw [hat p hpq]; exact T.rel.val p hp
  · by_cases hpq : p = q
    · rw [hpq, hatq]; rfl
    · rw [hat p hpq]; exact T.rel.esc p hp
  · have hpq : p ≠ q := fun c => by rw [c, hatq] at hw; cases hw
    rw [hat p hpq] at hw
    rcases T.mine p hp hw with ⟨p2, j1, j2, j3⟩ | j
    · exact .inl ⟨p2, j1, (hw0 p2 j2).1, j3⟩
    · exact .inr j
  · by_cases hpq : p = q
    · exact .inl ⟨q, hq, hnd, by rw [hpq, hσ]⟩
    · rw [hat p hpq] at hw
      rcases T.nd p hp hw with ⟨p2, j1, j2, j3⟩ | j
      · exact .inl ⟨p2, j1, hd0 p2 j2, j3⟩
      · exact .inr j
open Go.ChangeShapes Go.WideShapes
def isBs (W : World) (v : Value) : Prop := v = .slice none 0 0 ∨ (∃ a c, v = .slice (some a) 0 c) ∨
  ∃ a o L c, v = .slice (some ⟨a, o, none⟩) L c ∧ 0 < L ∧ L ≤ c ∧ a < W.heap.size ∧ ∀ i, i < L → ∃ q, W.cell? ⟨a, o + i, none⟩ = some (.bool q)
theorem isBs_of {H : Type} {enc : TypeId × Value → H} {P : Program} {w : World} {r : Reach} {base b0 : Nat} {sp : Nat → Bool} {held : Bool} {t e : TypeId} {v : Value} {d : DataW H} {p : List MemPlace}
    (hu : P.underlying t = some (.slice e)) (he : P.underlying e = some .bool) (hc1 : P.cellsOf e = 1) (hok : Value.okWide P w r base t v) (ht : DataW.Trod enc P w b0 sp held t v d p) : isBs w v := by
  obtain ⟨n, ht⟩ := ht
  have hc : v.cells = #[v] := by
    unfold Value.okWide at hok
    rw [hu] at hok
    unfold Cell.okWide at hok; rw [hu] at hok
    cases v <;> first | rfl | (simp [Cell.ok, hu] at hok)
  rw [hc] at ht
  rcases DataW.trod_slice hu ht with ⟨h1, _⟩ | ⟨a, len, cap, elems, rest, m, _, h1, _, hb, hlc, hcm, hel, hE, _, _⟩
  · simp only [List.cons.injEq, and_true] at h1
    exact .inl h1
  · simp only [List.cons.injEq, and_true] at h1
    subst h1
    by_cases hl0 : len = 0
    · subst hl0; exact .inr (.inl ⟨a, cap, rfl⟩)
    have hget : ∀ i, i < len → ∃ q, w.cell? (a.add i) = some (.bool q) := fun i hi => by
      have := hE i hi
      rw [List.getElem?_eq_getElem (by omega), hc1, Nat.mul_one] at this
      obtain ⟨cs', h1, h2⟩ := Option.bind_eq_some_iff.1 this
      obtain ⟨q, rfl, _⟩ := DataW.trod_bool he h2
      obtain ⟨_, h3, h4⟩ := World.cells?_some h1
      have h5 := h4 0 (by omega)
      refine ⟨q, ?_⟩
      have : (a.add i).add 0 = a.add i := by simp [Addr.add]
      rw [this] at h5
      simpa using h5
    have hsp : a.spot = none := by
      obtain ⟨q, hq⟩ := hget 0 (by omega)
      have h6 := World.cell?_spot hq
      simpa [Addr.add] using h6
    obtain ⟨b, o, s⟩ := a
    simp only at hsp
    subst hsp
    have hadd : ∀ i, (⟨b, o, none⟩ : Addr).add i = ⟨b, o + i, none⟩ := fun i => by
      simp only [Addr.add]
      by_cases hi : i = 0
      · subst hi; simp
      · simp [hi]
    refine .inr (.inr ⟨b, o, len, cap, rfl, by omega, hlc, ?_, fun i hi => ?_⟩)
    · obtain ⟨q, hq⟩ := hget 0 (by omega)
      rw [hadd] at hq
      unfold World.cell? at hq
      cases hb : w.heap[b]? with
      | none => rw [hb] at hq; cases hq
      | some o => exact (Array.getElem?_eq_some_iff.1 hb).1
    · obtain ⟨q, hq⟩ := hget i hi
      rw [hadd] at hq
      exact ⟨q, hq⟩
def LawB (P : Program) (f : FuncId) (L : World → Prop) : Prop := ∀ (W : World) (args : Array Value) (v : Value), L W → args.toList = [v] → isBs W v → Calls P f args W fun e W' => e = .returned (.bool true) ∧ Still W W'
structure RowOkB (P : Program) (f : FuncId) (fn : Func) (s : ChangeSpec) (L : List (String × DataW Unit)) : Prop where
  own : ownKnob P.godebug = none
  noInit : P.inits.idxOf? f = none
  isf : P.funcs[f]? = some fn
  laid : laidOutB P = true
  rowed : mapsRowed P = true
  full : slicesFull P = true
  params : fn.params.toList.all (fun t => decide (t < P.types.size)) = true
  vars : s.vars = []
  ret : ∃ bt, fn.resultTypes = #[bt] ∧ P.underlying bt = some .bool
  spec : ∀ (H : Type) (ds : List (DataW H)), ds.length = fn.params.toList.length → s.fn H ds = { results := [.lit (.bool true)], args := ds }
  tys : ∃ t e, fn.params.toList = [t] ∧ P.underlying t = some (.slice e) ∧ P.underlying e = some .bool ∧ P.cellsOf e = 1
theorem RowOkB.calls {P : Program} {f : FuncId} {fn : Func} {s : ChangeSpec} {L : List (String × DataW Unit)} (R : RowOkB P f fn s L) (hL : LawB P f fun W => laidMetH P L W)
    {H : Type} {enc : TypeId × Value → H} {W : World} {base : Nat} {r : Reach} {args : Array Value} {ds gs : List (DataW H)} {before : List MemPlace} {apart fresh handsOn : Bool}
    (hW0 : laidMetH P L W) (hval : ∀ (j : Nat) t v, fn.params[j]? = some t → args[j]? = some v → Value.okWide P W r base t v) (hW : DataW.Whole enc P fn.params.toList s.vars apart W args.toList ds gs before) :
    Calls P f args W fun e W' => ∃ v, e = .returned v ∧ s.post enc P fn apart fresh handsOn false W args v W' := by
  obtain ⟨bt, hrt, hbt⟩ := R.ret
  obtain ⟨t, e, ht, hu, he, hc1⟩ := R.tys
  obtain ⟨p, q, hA, hV, hb, hfz, hnd⟩ := id hW
  have hA' := hA
  rw [ht] at hA'
  obtain ⟨v, vs', d, ds', p', q', hvs, rfl, rfl, h0, h1⟩ := trodAll_cons hA'
  obtain ⟨rfl, rfl, rfl⟩ := trodAll_nil h1
  have hc := hL W args v hW0 hvs (isBs_of hu he hc1 (hval 0 t v (by rw [← Array.getElem?_toList, ht]; rfl) (by rw [← Array.getElem?_toList, hvs]; rfl)) h0)
  refine hc.mono fun e W' ⟨he, hst⟩ => ⟨_, he, ?_⟩
  have hgs : gs = [] := by
    rw [R.vars] at hV; exact (trodVars_none hV).1
  subst hgs
  refine law_post (kids_rows R.laid R.rowed) (fun t e ht hu => ?_) (fun t ht => ?_) R.vars hbt hrt ?_ hW hst
  · have := R.full
    simp only [slicesFull, List.all_eq_true, List.mem_range] at this
    have := this t ht
    rw [hu] at this
    simpa using this
  · have := R.params
    simp only [List.all_eq_true, decide_eq_true_eq] at this
    exact this t ht
  · simp only [List.append_nil]
    exact R.spec H _ (trodAll_length hA)
theorem RowOkB.lifted {C : Checked} {f : FuncId} {fn : Func} {s : ChangeSpec} {L : List (String × DataW Unit)} (R : RowOkB C.prog f fn s L) (hL : LawB C.prog f fun W => laidMetH C.prog L W) {os : Os} (started : os.Started) {H : Type} {enc : TypeId × Value → H} {conds : List PathCond} {apart fresh handsOn : Bool}
    (witness : ∃ (w : World) (tape : Tape) (i : Input), w.os = os ∧ (w.forCall tape i).Shaped C.prog ∧ i.vars = [] ∧ Input.okWide C.prog (w.forCall tape i) .any w.heap.size f i ∧
      ((s.pre enc C.prog fn conds apart (w.forCall tape i).memory i.args ∧ laidMetH C.prog L (w.forCall tape i).memory) ∧ sizedMet enc C.prog fn (OpenSpec.ofChange s) apart (w.forCall tape i).memory i.args) ∧ ({} : Assume).holds C.prog (lone (Frame.enter C.prog f i.args .normal) [] (w.forCall tape i))) :
    ReturnsInHanded {} C os f .any (fun w args => (s.pre enc C.prog fn conds apart w args ∧ laidMetH C.prog L w) ∧ sizedMet enc C.prog fn (OpenSpec.ofChange s) apart w args) (s.post enc C.prog fn apart fresh handsOn false) :=
  returnsInHanded_of_change_and (X := fun w _ => laidMetH C.prog L w) (fun _ _ _ hh h => h.of_heap hh) R.own started R.noInit R.isf witness fun _ _ _ _ _ _ hval hW _ _ hL0 _ => R.calls hL hL0 hval hW
def heapB (tab : List S) (m : Nat) : Hp := ⟨st .dd (.s .a .b) (.rb m) (st .dd .z (.ro tab) (.e .dd)), .s .a .c, 1000000000, 0, 0, [], false⟩
def envB (Y : Lay) (P : Program) (g a o : Nat) (ζ : (Nat → Int) × Nat) : Env := { σ := fun r => if r = .s .a .b then (a, o) else (g, 0), δ := fun _ => 0, ρ := ζ.1, β := ζ.2, κ := kapE Y P }
noncomputable def dc1 (d : DJ) : DJ := DJ.rec (motive := fun _ => DJ) .skip (fun _ => .skip) (fun _ => .skip) (fun _ _ _ _ => .skip) (fun _ a _ _ _ => a) (fun _ _ _ => .skip) (fun _ _ => .skip) (fun _ => .skip) .skip (fun _ _ _ _ _ _ => .skip) (fun _ _ _ => .skip) d
section
variable {Y : Lay} {P : Program} {ζ : (Nat → Int) × Nat} {prog : Tr FJ} {nat : Cal}
theorem heapB_at {tab : List S} {m : Nat} (r : Pth) (hr : r.n < (heapB tab m).n.n) : (r = .z ∧ (heapB tab m).at r = .ro tab) ∨ (r = .s .a .b ∧ (heapB tab m).at r = .rb m) := by
  have : r.n < 2 := hr
  by_cases h0 : r.n = 0
  · have := Pth.inj (show r.n = Pth.z.n from h0)
    subst this
    exact .inl ⟨rfl, rfl⟩
  · have := Pth.inj (show r.n = (Pth.s .a .b).n by show r.n = 1; omega)
    subst this
    exact .inr ⟨rfl, rfl⟩
theorem relB {tab : List S} {m g a o : Nat} {W : World} (hlt : g < W.heap.size) (hc : ∀ (i : Nat) s, tab[i]? = some s → W.cell? ⟨g, i, none⟩ = some (s.tr (envB Y P g a o ζ))) (hf : tab.all (S.rf noR) = true) (ha : a < W.heap.size) (hb : ∀ i, i < m → ∃ q, W.cell? ⟨a, o + i, none⟩ = some (.bool q)) : Rel (envB Y P g a o ζ) (heapB tab m) W := by
  have hz : (envB Y P g a o ζ).σ .z = (g, 0) := by simp [envB]
  have h1 : (envB Y P g a o ζ).σ (.s .a .b) = (a, o) := by simp [envB]
  refine ⟨fun r hr => ?_, fun r r' hr hr' hne hw hd => ?_, fun r hr => ?_, fun r hr => ?_⟩
  · rcases heapB_at r hr with ⟨rfl, h⟩ | ⟨rfl, h⟩
    · rw [h]
      exact ⟨by rw [hz]; exact hlt, fun i s hs => by rw [← hc i s hs]; simp only [adr, hz, Nat.zero_add]⟩
    · rw [h]
      exact ⟨by rw [h1]; exact ha, fun i hi => by obtain ⟨q, hq⟩ := hb i hi; exact ⟨q, by rw [← hq]; simp only [adr, h1]⟩⟩
  · rcases heapB_at r hr with ⟨_, h⟩ | ⟨_, h⟩ <;> rw [h] at hw <;> cases hw
  · rcases heapB_at r hr with ⟨_, h⟩ | ⟨_, h⟩ <;> rw [h]
    · exact ss_mono (fun p hp => by cases hp) hf
    · rfl
  · rcases heapB_at r hr with ⟨_, h⟩ | ⟨_, h⟩ <;> rw [h]
    · exact ss_mono (fun p hp => by cases hp) hf
    · rfl
theorem heapB_ro {tab : List S} {m : Nat} (r : Pth) (hr : r.n < (heapB tab m).n.n) : ((heapB tab m).at r).rw = false := by
  rcases heapB_at r hr with ⟨_, h⟩ | ⟨_, h⟩ <;> rw [h] <;> rfl
theorem law_runG (hm : P.follows .mixedOrders = true) (HP : ProgOk Y P prog) (HN : CalOk Y P (kp Y P ζ) nat) {e0 : Env} {h0 : Hp} {W : World} (hκ0 : EK e0 (kp Y P ζ)) (hR : Rel e0 h0 W) (hG : Gl Y e0 (Pth.ok h0.n.n)) (hro : ∀ r : Pth, r.n < h0.n.n → (h0.at r).rw = false)
    {f : Pth} {A : List V} {n : Nat} {v : V} (hr : valB (calM prog nat n (.fn f []) A h0) v = true) {args : Array Value} (hA : Iss e0 A args.toList) (hAf : A.all (V.rf (Pth.ok h0.n.n)) = true) (hv : v.rf noR = true) (hu : v ≠ .u) (hnu : v.nU = true) :
    Calls P f.n args W fun e W' => e = .returned (v.tr e0) ∧ Still W W' := by
  obtain ⟨h', hr⟩ := valB_out hr
  have hC := calM_ok hm HP HN n (.fn f []) A h0 _ hr e0 W args.toList hκ0 hR hG rfl hAf hA
  have hC := hC.2
  simp only [List.map_nil, Array.toArray_toList] at hC
  have e1 : args ++ [].toArray = args := by simp
  rw [e1] at hC
  refine hC.mono ?_
  rintro en W' ⟨x, rfl, e', i1, _, i3, _⟩
  have AF : AgrF noR e' e0 := ⟨fun r hr => (by cases hr), fun r hr => (by cases hr), i1.agr.ρ.symm, i1.agr.β.symm⟩
  have hx : x = v.tr e0 := by
    rcases AF.isu hv i3 with h | h
    · exact absurd h hu
    · exact h.eq hnu
  exact ⟨by rw [hx], i1.os, i1.output, fun b hb => i1.keep b hb fun r hr hw => by rw [hro r hr] at hw; cases hw⟩
end
def c16 : Nat := 37797378607030871261184
def cQ (k i Q : Nat) : Nat := qN + k * 79228162514264337593543950336 + i * 18446744073709551616 + Q
theorem vl_cQ {e : Env} {k i Q : Nat} (hk : k < 4) (hi : i < 4294967296) (hQ : Q < 18446744073709551616) : vl e (.ofNat (cQ k i Q)) = ((if k = 0 then (if fval e.ρ 16 = i then Q else 0) else if k = 1 then (if fval e.ρ 16 / 64 = i then 2 ^ (fval e.ρ 16 % 64) else 0) else 2 ^ (fval e.ρ 16 / 64) : Nat) : Int) := by
  unfold vl
  have h1 : cQ k i Q = qN + k * 79228162514264337593543950336 + i * 18446744073709551616 + Q := rfl
  rw [if_pos (by show (18446744073709551616 : Int) ≤ ((cQ k i Q : Nat) : Int); rw [h1]; unfold qN; omega), if_pos (by show (symN : Int) ≤ ((cQ k i Q : Nat) : Int); rw [h1]; unfold symN qN; omega), if_pos (by show (gN : Int) ≤ ((cQ k i Q : Nat) : Int); rw [h1]; unfold gN qN; omega), if_pos (by show (qN : Int) ≤ ((cQ k i Q : Nat) : Int); rw [h1]; omega), if_neg (by show ¬ (q2N : Int) ≤ ((cQ k i Q : Nat) : Int); rw [h1]; unfold qN q2N; omega)]
  show ((selV e.ρ (cQ k i Q) : Nat) : Int) = _
  have a1 : cQ k i Q / 79228162514264337593543950336 % 4 = k := by rw [h1]; unfold qN; omega
  have a2 : cQ k i Q / 18446744073709551616 % 4294967296 = i := by rw [h1]; unfold qN; omega
  have a3 : sC (cQ k i Q) = Q := by show cQ k i Q % 18446744073709551616 = Q; rw [h1]; unfold qN; omega
  unfold selV
  rw [a1, a2, a3]
def qOv (Q : Nat) : List (Nat × Int) := (4, .ofNat (cQ 2 0 0)) :: (8, .ofNat (cQ 1 0 0)) :: (9, .ofNat (cQ 1 1 0)) :: (10, .ofNat (cQ 1 2 0)) :: (11, .ofNat (cQ 1 3 0)) :: (List.range 256).map fun i => (256 + i, .ofNat (cQ 0 i Q))
def spc (i : Nat) : Bool := i == 4 || (8 ≤ i && i < 12) || (256 ≤ i && i < 512)
theorem wlk_app : ∀ (a b : List (Nat × Int)) (i : Nat), wlk (a ++ b) i = match wlk a i with | some x => some x | none => wlk b i
  | [], b, i => rfl
  | (j, x) :: a, b, i => by
    simp only [List.cons_append, wlk]
    split
    · rfl
    · exact wlk_app a b i
theorem wlk_map (g : Nat → Int) : ∀ (l : List Nat) (j : Nat), wlk (l.map fun i => (256 + i, g i)) j = if 256 ≤ j ∧ j - 256 ∈ l then some (g (j - 256)) else none
  | [], j => by simp [wlk]
  | x :: l, j => by
    simp only [List.map_cons, wlk]
    by_cases h : j = 256 + x
    · rw [if_pos h, if_pos ⟨by omega, by rw [show j - 256 = x by omega]; simp⟩, show j - 256 = x by omega]
    · rw [if_neg h, wlk_map g l j]
      by_cases h1 : 256 ≤ j ∧ j - 256 ∈ l
      · rw [if_pos h1, if_pos ⟨h1.1, List.mem_cons_of_mem _ h1.2⟩]
      · rw [if_neg h1, if_neg]
        rintro ⟨c1, c2⟩
        rcases List.mem_cons.1 c2 with c2 | c2
        · omega
        · exact h1 ⟨c1, c2⟩
theorem wlk_qOv (Q i : Nat) : wlk (qOv Q) i = if i = 4 then some (.ofNat (cQ 2 0 0)) else if 8 ≤ i ∧ i < 12 then some (.ofNat (cQ 1 (i - 8) 0)) else if 256 ≤ i ∧ i < 512 then some (.ofNat (cQ 0 (i - 256) Q)) else none := by
  unfold qOv
  simp only [wlk]
  by_cases h4 : i = 4
  · simp [h4]
  rw [if_neg h4, if_neg h4]
  by_cases h8 : i = 8
  · subst h8; simp
  by_cases h9 : i = 9
  · subst h9; simp
  by_cases h10 : i = 10
  · subst h10; simp
  by_cases h11 : i = 11
  · subst h11; simp
  rw [if_neg h8, if_neg h9, if_neg h10, if_neg h11, if_neg (by omega), wlk_map (fun i => .ofNat (cQ 0 i Q))]
  by_cases h : 256 ≤ i ∧ i < 512
  · rw [if_pos h, if_pos ⟨h.1, by rw [List.mem_range]; omega⟩]
  · rw [if_neg h, if_neg (by rw [List.mem_range]; omega)]
theorem wrd_zero {m a b i : Nat} (h : (m >>> a) % 2 ^ b = 0) (h1 : a ≤ 64 * i) (h2 : 64 * i + 64 ≤ a + b) : wrd m i = 0 := by
  apply Nat.eq_of_testBit_eq
  intro j
  rw [wrd_bit, Nat.zero_testBit]
  by_cases hj : j < 64
  · have : ((m >>> a) % 2 ^ b).testBit (64 * i + j - a) = false := by rw [h]; simp
    rw [Nat.testBit_mod_two_pow, Nat.testBit_shiftRight, show a + (64 * i + j - a) = 64 * i + j by omega] at this
    have h3 : 64 * i + j - a < b := by omega
    simp only [h3, decide_true, Bool.true_and] at this
    rw [this, Bool.and_false]
  · simp [hj]
noncomputable def zM (m : Nat) : Bool := and (Nat.beq (Nat.mod (Nat.shiftRight m 256) (Nat.pow 2 64)) 0) (and (Nat.beq (Nat.mod (Nat.shiftRight m 512) (Nat.pow 2 256)) 0) (Nat.beq (Nat.mod (Nat.shiftRight m 16384) (Nat.pow 2 16384)) 0))
theorem zq_out {m a b : Nat} (h : Nat.beq (Nat.mod (Nat.shiftRight m a) (Nat.pow 2 b)) 0 = true) : (m >>> a) % 2 ^ b = 0 := nat_eq h
theorem zM_out {m i : Nat} (h : zM m = true) (hi : spc i = true) : wrd m i = 0 := by
  obtain ⟨h1, h2⟩ := and_t h
  obtain ⟨h2, h3⟩ := and_t h2
  simp only [spc, Bool.or_eq_true, Bool.and_eq_true, decide_eq_true_eq, beq_iff_eq] at hi
  rcases hi with (hi | hi) | hi
  · exact wrd_zero (zq_out h1) (by omega) (by omega)
  · exact wrd_zero (zq_out h2) (by omega) (by omega)
  · exact wrd_zero (zq_out h3) (by omega) (by omega)
noncomputable def qHi (o : List (Nat × Int)) : Bool := allF (fun x => Nat.ble 512 x.1) o
theorem qHi_wlk {i : Nat} (hi : i < 512) : ∀ {o : List (Nat × Int)}, qHi o = true → wlk o i = none
  | [], _ => rfl
  | (j, x) :: o, h => by
    obtain ⟨h1, h2⟩ := and_t (show and (Nat.ble 512 j) (qHi o) = true from h)
    have := nat_le h1
    simp only [wlk]
    rw [if_neg (by omega)]
    exact qHi_wlk hi h2
noncomputable def preF (a : List (Nat × Int)) : List (Nat × Int) → Option (List (Nat × Int)) :=
  List.rec (motive := fun _ => List (Nat × Int) → Option (List (Nat × Int))) (fun o => some o) (fun x _ ih o => List.rec none (fun y o _ => onB (Prod.rec (fun i p => Prod.rec (fun j q => and (Nat.beq i j) (eqF p q)) y) x) (ih o) none) o) a
theorem preF_out : ∀ {a o r : List (Nat × Int)}, preF a o = some r → o = a ++ r
  | [], o, r, h => by cases h; rfl
  | (i, p) :: a, [], r, h => by cases h
  | (i, p) :: a, (j, q) :: o, r, h => by
    obtain ⟨h1, h2⟩ := onB_t (show onB (and (Nat.beq i j) (eqF p q)) (preF a o) none = some r from h)
    obtain ⟨h1, h3⟩ := and_t h1
    rw [eqF_eq] at h3
    rw [nat_eq h1, of_decide_eq_true h3, preF_out h2]; rfl
structure QD (d : Wt) (Q : Nat) (r : List (Nat × Int)) (m : Nat) : Prop where
  d : d = .mk m ((if Q = 0 then [] else qOv Q) ++ r)
  z : zM m = true
  r : qHi r = true
  Q : Q < 18446744073709551616
noncomputable def nI (x : Option Int) : Nat := Option.rec 0 (fun x => Int.rec (fun n => n) (fun _ => 0) x) x
noncomputable def qG {γ : Type} (d : Wt) (c : Nat → List (Nat × Int) → Nat → Option γ) : Option γ :=
  Wt.rec (fun m o => onB (zM m) (onB (qHi o) (c 0 o m) (fN (sC (nI (wlk o 256))) fun Q => onB (Nat.beq Q 0) none (onO (preF (qOv Q) o) fun r => onB (qHi r) (c Q r m) none))) none) d
theorem qG_out {γ : Type} {d : Wt} {c : Nat → List (Nat × Int) → Nat → Option γ} {z : γ} (h : qG d c = some z) : ∃ Q r m, QD d Q r m ∧ c Q r m = some z := by
  obtain ⟨m, o⟩ := d
  obtain ⟨h1, h⟩ := onB_t (show onB (zM m) _ none = some z from h)
  rcases onB_or h with ⟨h2, h⟩ | ⟨_, h⟩
  · exact ⟨0, o, m, ⟨rfl, h1, h2, by decide⟩, h⟩
  · rw [fN_eq] at h
    rcases onB_or h with ⟨_, h⟩ | ⟨h0, h⟩
    · cases h
    · obtain ⟨r, h3, h⟩ := onO_some h
      obtain ⟨h4, h⟩ := onB_t h
      have hne : sC (nI (wlk o 256)) ≠ 0 := fun c => by rw [c] at h0; cases h0
      exact ⟨_, r, m, ⟨by rw [if_neg hne]; exact congrArg (Wt.mk m) (preF_out h3), h1, h4, sC_lt _⟩, h⟩
noncomputable def qS (Q : Nat) (r : List (Nat × Int)) (m : Nat) : Wt := .mk m ((if Q = 0 then [] else qOv Q) ++ r)
theorem QD.at_spc {d : Wt} {Q : Nat} {r : List (Nat × Int)} {m i : Nat} (h : QD d Q r m) (hi : spc i = true) : wg d i = if Q = 0 then 0 else if i = 4 then .ofNat (cQ 2 0 0) else if 8 ≤ i ∧ i < 12 then .ofNat (cQ 1 (i - 8) 0) else .ofNat (cQ 0 (i - 256) Q) := by
  have hlt : i < 512 := by
    simp only [spc, Bool.or_eq_true, Bool.and_eq_true, decide_eq_true_eq, beq_iff_eq] at hi
    omega
  rw [h.d]
  simp only [wg, wlk_app]
  by_cases hQ : Q = 0
  · rw [if_pos hQ, if_pos hQ]
    simp only [wlk, qHi_wlk hlt h.r, zM_out h.z hi]; rfl
  · rw [if_neg hQ, if_neg hQ, wlk_qOv]
    simp only [spc, Bool.or_eq_true, Bool.and_eq_true, decide_eq_true_eq, beq_iff_eq] at hi
    by_cases h4 : i = 4
    · simp only [if_pos h4]
    · simp only [if_neg h4]
      by_cases h8 : 8 ≤ i ∧ i < 12
      · simp only [if_pos h8]
      · simp only [if_neg h8]
        rw [if_pos (by omega)]
theorem QD.at_not {d : Wt} {Q : Nat} {r : List (Nat × Int)} {m i : Nat} (h : QD d Q r m) (hi : spc i = false) : wg d i = match wlk r i with | some x => x | none => .ofNat (wrd m i) := by
  rw [h.d]
  simp only [wg, wlk_app]
  have : wlk (if Q = 0 then [] else qOv Q) i = none := by
    split
    · rfl
    · rw [wlk_qOv]
      simp only [spc, Bool.or_eq_false_iff, Bool.and_eq_false_iff, decide_eq_false_iff_not, beq_eq_false_iff_ne] at hi
      rw [if_neg hi.1.1, if_neg (by omega), if_neg (by omega)]
  rw [this]
  cases wlk r i <;> rfl
theorem QD.set {d : Wt} {Q Q' : Nat} {r : List (Nat × Int)} {m : Nat} (h : QD d Q r m) (hQ : Q' < 18446744073709551616) : QD (qS Q' r m) Q' r m := ⟨rfl, h.z, h.r, hQ⟩
open Go.RowKit Go.Proofs
set_option linter.all false
theorem read_any (b o q p i : Nat) (n cap : Nat) (k x : Int) (w : World) (h0 : w.cell? ⟨b, o, none⟩ = some (.slice (some ⟨q, p, none⟩) n cap)) (h1 : w.cell? ⟨b, o + 1, none⟩ = some (.int .i64 k)) (hf : w.frozen? ⟨b, o + 1, none⟩ = false)
    (hx : w.cell? ⟨q, p + i, none⟩ = some (.int .u64 x)) (hne : b ≠ q) (hi : i < n) (hn : n < 9223372036854775808) (hc : n ≤ cap) :
    Calls Tryz.prog 33 #[.pointer (some ⟨b, o, none⟩), .int .i64 (i : Int)] w fun e w' => e = .returned (.tuple #[.int .u64 x, .int .i64 0]) ∧ w' = w.setCell ⟨b, o + 1, none⟩ (.int .i64 (wrap64 (k + 1))) := by
  go_enter Tryz.func33, Tryz.ntmps33
  go_wp2
  go_ret2
  exact ⟨rfl, rfl⟩
theorem write_any (b o q p i : Nat) (n cap : Nat) (k x y : Int) (w : World) (h0 : w.cell? ⟨b, o, none⟩ = some (.slice (some ⟨q, p, none⟩) n cap)) (h1 : w.cell? ⟨b, o + 1, none⟩ = some (.int .i64 k)) (hf : w.frozen? ⟨b, o + 1, none⟩ = false)
    (hx : w.cell? ⟨q, p + i, none⟩ = some (.int .u64 y)) (hxf : w.frozen? ⟨q, p + i, none⟩ = false) (hne : b ≠ q) (hi : i < n) (hn : n < 9223372036854775808) (hc : n ≤ cap) :
    Calls Tryz.prog 100 #[.pointer (some ⟨b, o, none⟩), .int .i64 (i : Int), .int .u64 x] w fun e w' => e = .returned (.int .i64 0) ∧ w' = (w.setCell ⟨q, p + i, none⟩ (.int .u64 x)).setCell ⟨b, o + 1, none⟩ (.int .i64 (wrap64 (k + 1))) := by
  go_enter Tryz.func100, Tryz.ntmps100
  go_wp2
  refine wp_loop_rounds 2 ?_
  rw [rounds_succ]
  go_wp2
  rw [rounds_succ]
  go_wp2
  go_ret
  exact ⟨rfl, rfl⟩
section
variable {κ : KP}
theorem fn33 : FnOk Tryz.prog 33 := ⟨Tryz.f33, Tryz.func33, rfl, by kernel_rfl⟩
theorem fn100 : FnOk Tryz.prog 100 := ⟨Tryz.f100, Tryz.func100, rfl, by kernel_rfl⟩
theorem nRead_ok {Y : Lay} : NfOk Y Tryz.prog κ 33 nRead := fun args h z hz e w xs hκ hR hG hf hx => by
  obtain ⟨x, a, r, q, i, m, D, d, p, n, k, ha, G, rfl⟩ := nRead_some hz
  subst ha
  simp only [List.all_cons, List.all_nil, Bool.and_eq_true] at hf
  obtain ⟨hr, hq⟩ := G.rq hR hf.1
  obtain ⟨g1, ⟨s, g2⟩, g3, g4, g5, g6, g7⟩ := G.out hR hr hq
  have han := G.an; have hnk := G.nk; have hkG := G.kG; have hi := G.hi
  obtain ⟨x', y', rfl, hx1, hx2⟩ := iss2 hx
  have ex := isu_eq hx1 (by rw [G.hx]; simp) (by rw [G.hx]; rfl)
  have ey := isu_eq hx2 (by simp) (kn_word (by omega))
  have ey : y' = .int .i64 (a : Int) := by rw [ey]; show Value.int .i64 (vl e (.ofNat a)) = _; rw [vl_nat (by omega)]
  rw [G.hx] at ex
  subst ex ey
  refine ⟨fn33, ?_⟩
  have R := read_any (e.σ r).1 ((e.σ r).2 + 0) (e.σ q).1 ((e.σ q).2 + p) a n k s (vl e (wg d i)) w g1 g2 g3 (by rw [Nat.add_assoc, ← hi]; exact g4) g6 han (by omega) hnk
  refine R.mono ?_
  rintro en w' ⟨rfl, rfl⟩
  refine ⟨_, rfl, e, cu_step hR hr G.hr _, rfl, .inr (.inl rfl), ?_⟩
  show (V.tup [.s (.i .u64 (wg d i)), .s (.i .i64 0)]).rf _ = true
  simp only [V.rf, List.all_cons, List.all_nil, C.rf, S.rf, g7, Bool.true_and, Bool.and_true]; rfl
theorem nWrite_ok {Y : Lay} : NfOk Y Tryz.prog κ 100 nWrite := fun args h z hz e w xs hκ hR hG hf hx => by
  obtain ⟨x, a, n0, r, q, i, m, D, d, p, n, k, ha, h7, G, rfl⟩ := nWrite_some hz
  subst ha
  simp only [List.all_cons, List.all_nil, Bool.and_eq_true] at hf
  obtain ⟨hr, hq⟩ := G.rq hR hf.1
  obtain ⟨g1, ⟨s, g2⟩, g3, g4, g5, g6, g7⟩ := G.out hR hr hq
  have han := G.an; have hnk := G.nk; have hkG := G.kG; have hi := G.hi
  obtain ⟨x', y', v', rfl, hx1, hx2, hx3⟩ := iss3 hx
  have ex := isu_eq hx1 (by rw [G.hx]; simp) (by rw [G.hx]; rfl)
  have ey := isu_eq hx2 (by simp) (kn_word (by omega))
  have ey : y' = .int .i64 (a : Int) := by rw [ey]; show Value.int .i64 (vl e (.ofNat a)) = _; rw [vl_nat (by omega)]
  have ev := isu_eq hx3 (by simp) h7
  rw [G.hx] at ex
  subst ex ey ev
  refine ⟨fn100, ?_⟩
  have R := write_any (e.σ r).1 ((e.σ r).2 + 0) (e.σ q).1 ((e.σ q).2 + p) a n k s (vl e n0) (vl e (wg d i)) w g1 g2 g3 (by rw [Nat.add_assoc, ← hi]; exact g4) (by rw [Nat.add_assoc, ← hi]; exact g5) g6 han (by omega) hnk
  refine R.mono ?_
  rintro en w' ⟨rfl, rfl⟩
  rw [Nat.add_assoc, ← hi]
  have hrq : r ≠ q := fun c => g6 (by rw [c])
  have S1 := w_step hR hq G.hq G.im h7
  have S2 := cu_step S1.rel (q := r) (s := .sl q p n k) hr (by rw [Hp.at_set, if_neg hrq]; exact G.hr) (wrap64 (s + 1))
  exact ⟨_, rfl, e, S1.trans S2, rfl, .inr (.inl rfl), rfl⟩
end
open Go.RowKit Go.Proofs
set_option linter.all false
theorem ends_any (b o q p : Nat) (n cap : Nat) (k x : Int) (s : Nat) (w : World) (h0 : w.cell? ⟨b, o, none⟩ = some (.slice (some ⟨q, p, none⟩) n cap)) (h1 : w.cell? ⟨b, o + 1, none⟩ = some (.int .i64 k)) (hf : w.frozen? ⟨b, o + 1, none⟩ = false)
    (hs : s < 256) (hx : w.cell? ⟨q, p + (256 + s), none⟩ = some (.int .u64 x)) (hne : b ≠ q) (hi : 512 ≤ n) (hn : n < 9223372036854775808) (hc : n ≤ cap) :
    Calls Tryz.prog 116 #[.pointer (some ⟨b, o, none⟩), .int .i64 (s : Int)] w fun e w' => e = .returned (.tuple #[.int .i64 (wrap64 (bits .and .u64 x 65535)), .int .i64 (wrap64 (bits .and .u64 (x / 65536) 65535))]) ∧ w' = w.setCell ⟨b, o + 1, none⟩ (.int .i64 (wrap64 (k + 1))) := by
  go_enter Tryz.func116, Tryz.ntmps116
  go_wp2_with (go_at_call 33; go_loud (rw [show (256 + (s : Int)) = ((256 + s : Nat) : Int) by omega]; refine (read_any b o q p (256 + s) n cap k x w h0 h1 hf hx hne (by omega) hn hc).mono ?_; rintro e w' ⟨rfl, rfl⟩))
  go_ret2
  exact ⟨rfl, rfl⟩
structure MemW (b o q p n cap i : Nat) (k x : Int) (w : World) : Prop where
  h0 : w.cell? ⟨b, o, none⟩ = some (.slice (some ⟨q, p, none⟩) n cap)
  h1 : w.cell? ⟨b, o + 1, none⟩ = some (.int .i64 k)
  hf : w.frozen? ⟨b, o + 1, none⟩ = false
  hx : w.cell? ⟨q, p + i, none⟩ = some (.int .u64 x)
  hxf : w.frozen? ⟨q, p + i, none⟩ = false
theorem MemW.tick {b o q p n cap i : Nat} {k x : Int} {w : World} (h : MemW b o q p n cap i k x w) (hne : b ≠ q) (k' : Int) : MemW b o q p n cap i k' x (w.setCell ⟨b, o + 1, none⟩ (.int .i64 k')) := by
  have e1 : (⟨b, o + 1, none⟩ : Addr) ≠ ⟨b, o, none⟩ := by simp
  have e2 : (⟨b, o + 1, none⟩ : Addr) ≠ ⟨q, p + i, none⟩ := by simp [hne]
  refine ⟨?_, World.cell?_setCell_same _ _ _ h.h1, by rw [World.frozen?_setCell]; exact h.hf, ?_, by rw [World.frozen?_setCell]; exact h.hxf⟩
  · rw [World.cell?_setCell_other _ _ _ _ e1]; exact h.h0
  · rw [World.cell?_setCell_other _ _ _ _ e2]; exact h.hx
def markV (x : Int) (at_ : Nat) (on : Bool) : Int := if on then bits .or .u64 (bits .andNot .u64 x (IntKind.u64.wrap (2 ^ at_))) (IntKind.u64.wrap (2 ^ at_)) else bits .andNot .u64 x (IntKind.u64.wrap (2 ^ at_))
theorem mark_any (b o q p i : Nat) (n cap : Nat) (k x : Int) (at_ : Nat) (on : Bool) (w : World) (h : MemW b o q p n cap i k x w) (hne : b ≠ q) (hi : i < n) (hn : n < 9223372036854775808) (hc : n ≤ cap) (hat : at_ < 64) :
    Calls Tryz.prog 199 #[.pointer (some ⟨b, o, none⟩), .int .i64 (i : Int), .int .i64 (at_ : Int), .bool on] w fun e w' => e = .returned (.int .u64 (markV x at_ on)) ∧ w' = ((w.setCell ⟨b, o + 1, none⟩ (.int .i64 (wrap64 (k + 1)))).setCell ⟨q, p + i, none⟩ (.int .u64 (markV x at_ on))).setCell ⟨b, o + 1, none⟩ (.int .i64 (wrap64 (wrap64 (k + 1) + 1))) := by
  have h' := h.tick hne (wrap64 (k + 1))
  cases on with
  | true =>
    go_enter Tryz.func199, Tryz.ntmps199
    go_wp2_with (first | (go_at_call 33; refine (read_any b o q p i n cap k x w h.h0 h.h1 h.hf h.hx hne hi hn hc).mono ?_; rintro e w' ⟨rfl, rfl⟩) | (go_at_call 100; refine (write_any b o q p i n cap _ _ x _ h'.h0 h'.h1 h'.hf h'.hx h'.hxf hne hi hn hc).mono ?_; rintro e w' ⟨rfl, rfl⟩))
    go_ret
    exact ⟨rfl, rfl⟩
  | false =>
    go_enter Tryz.func199, Tryz.ntmps199
    go_wp2_with (first | (go_at_call 33; refine (read_any b o q p i n cap k x w h.h0 h.h1 h.hf h.hx hne hi hn hc).mono ?_; rintro e w' ⟨rfl, rfl⟩) | (go_at_call 100; refine (write_any b o q p i n cap _ _ x _ h'.h0 h'.h1 h'.hf h'.hx h'.hxf hne hi hn hc).mono ?_; rintro e w' ⟨rfl, rfl⟩))
    go_ret
    exact ⟨rfl, rfl⟩
open Go.RowKit Go.Proofs
set_option linter.all false
structure MemR (e : Env) (h : Hp) (w : World) (r q : Pth) (n k m D : Nat) (d : Wt) : Prop where
  H : Rel e h w
  hr : r.n < h.n.n
  hq : q.n < h.n.n
  ar : h.at r = .cu (.sl q 0 n k)
  aq : h.at q = .w .u64 m D d
  nm : n ≤ m
  nk : n ≤ k
  kG : k < 4294967296
theorem MemR.hn {e : Env} {h : Hp} {w : World} {r q : Pth} {n k m D : Nat} {d : Wt} (G : MemR e h w r q n k m D d) : n < 9223372036854775808 := by have := G.nk; have := G.kG; omega
theorem MemR.memW {e : Env} {h : Hp} {w : World} {r q : Pth} {n k m D : Nat} {d : Wt} (G : MemR e h w r q n k m D d) {i : Nat} (hi : i < n) :
    (∃ s, MemW (e.σ r).1 (e.σ r).2 (e.σ q).1 (e.σ q).2 n k i s (vl e (wg d i)) w) ∧ (e.σ r).1 ≠ (e.σ q).1 ∧ kn (wg d i) = true := by
  have g1 := G.H.ok r G.hr
  rw [G.ar] at g1
  obtain ⟨g1, g3, ⟨s, g4⟩, g5⟩ := g1
  have g2 := G.H.ok q G.hq
  rw [G.aq] at g2
  obtain ⟨j1, j2, j3, j4, j5⟩ := g2
  have hv := G.H.val q G.hq
  rw [G.aq] at hv
  have him : i < m := Nat.lt_of_lt_of_le hi G.nm
  refine ⟨⟨s, ?_, g4, (g5 1 (by omega)).2, j2 i him, (j3 i him).2⟩, G.H.sep r q G.hr G.hq ?_ (by rw [G.ar]; rfl) (by rw [G.aq]; simp), kn_wg hv⟩
  · have : cpT e q k = k := by unfold cpT; rw [if_pos (by have := G.kG; unfold Go.E.G; omega)]
    have g3 : w.cell? (adr e r 0) = some (.slice (some (adr e q 0)) n (cpT e q k)) := g3
    rw [this] at g3
    exact g3
  · intro h; have h1 := G.ar; have h2 := G.aq; rw [h, h2] at h1; cases h1
theorem MemR.tick {e : Env} {h : Hp} {w : World} {r q : Pth} {n k m D : Nat} {d : Wt} (G : MemR e h w r q n k m D d) (s : Int) : Step e h w e h (w.setCell (adr e r 1) (.int .i64 s)) ∧ MemR e h (w.setCell (adr e r 1) (.int .i64 s)) r q n k m D d :=
  have S := cu_step G.H G.hr G.ar s
  ⟨S, S.rel, G.hr, G.hq, G.ar, G.aq, G.nm, G.nk, G.kG⟩
theorem MemR.set {e : Env} {h : Hp} {w : World} {r q : Pth} {n k m D : Nat} {d : Wt} (G : MemR e h w r q n k m D d) {i : Nat} (hi : i < n) {x : Int} (hx : kn x = true) : Step e h w e (h.set q (.w .u64 m D (wst d i x))) (w.setCell (adr e q i) (.int .u64 (vl e x))) ∧ MemR e (h.set q (.w .u64 m D (wst d i x))) (w.setCell (adr e q i) (.int .u64 (vl e x))) r q n k m D (wst d i x) :=
  have S := w_step G.H G.hq G.aq (Nat.lt_of_lt_of_le hi G.nm) hx
  have hne : r ≠ q := fun c => by have h1 := G.ar; have h2 := G.aq; rw [c, h2] at h1; cases h1
  ⟨S, S.rel, G.hr, G.hq, by rw [Hp.at_set, if_neg hne]; exact G.ar, by rw [Hp.at_set, if_pos rfl], G.nm, G.nk, G.kG⟩
theorem rd_rel {e : Env} {h : Hp} {w : World} {r q : Pth} {n k m D : Nat} {d : Wt} (G : MemR e h w r q n k m D d) {i : Nat} (hi : i < n) :
    Calls Tryz.prog 33 #[.pointer (some (adr e r 0)), .int .i64 (i : Int)] w fun en w' => en = .returned (.tuple #[.int .u64 (vl e (wg d i)), .int .i64 0]) ∧ Step e h w e h w' ∧ MemR e h w' r q n k m D d := by
  obtain ⟨⟨s, M⟩, hne, _⟩ := G.memW hi
  refine (read_any (e.σ r).1 (e.σ r).2 (e.σ q).1 (e.σ q).2 i n k s _ w M.h0 M.h1 M.hf M.hx hne hi G.hn G.nk).mono ?_
  rintro en w' ⟨rfl, rfl⟩
  exact ⟨rfl, G.tick _⟩
theorem wr_rel {e : Env} {h : Hp} {w : World} {r q : Pth} {n k m D : Nat} {d : Wt} (G : MemR e h w r q n k m D d) {i : Nat} (hi : i < n) {x : Int} (hx : kn x = true) :
    Calls Tryz.prog 100 #[.pointer (some (adr e r 0)), .int .i64 (i : Int), .int .u64 (vl e x)] w fun en w' => en = .returned (.int .i64 0) ∧ Step e h w e (h.set q (.w .u64 m D (wst d i x))) w' ∧ MemR e (h.set q (.w .u64 m D (wst d i x))) w' r q n k m D (wst d i x) := by
  obtain ⟨⟨s, M⟩, hne, _⟩ := G.memW hi
  refine (write_any (e.σ r).1 (e.σ r).2 (e.σ q).1 (e.σ q).2 i n k s _ _ w M.h0 M.h1 M.hf M.hx M.hxf hne hi G.hn G.nk).mono ?_
  rintro en w' ⟨rfl, rfl⟩
  obtain ⟨S1, G1⟩ := G.set hi hx
  obtain ⟨S2, G2⟩ := G1.tick (wrap64 (s + 1))
  exact ⟨rfl, S1.trans S2, G2⟩
theorem mk_rel {e : Env} {h : Hp} {w : World} {r q : Pth} {n k m D : Nat} {d : Wt} (G : MemR e h w r q n k m D d) {i : Nat} (hi : i < n) {a : Nat} (ha : a < 64) (on : Bool) {x : Int} (hx : kn x = true) (hv : markV (vl e (wg d i)) a on = vl e x) :
    Calls Tryz.prog 199 #[.pointer (some (adr e r 0)), .int .i64 (i : Int), .int .i64 (a : Int), .bool on] w fun en w' => en = .returned (.int .u64 (vl e x)) ∧ Step e h w e (h.set q (.w .u64 m D (wst d i x))) w' ∧ MemR e (h.set q (.w .u64 m D (wst d i x))) w' r q n k m D (wst d i x) := by
  obtain ⟨⟨s, M⟩, hne, _⟩ := G.memW hi
  refine (mark_any (e.σ r).1 (e.σ r).2 (e.σ q).1 (e.σ q).2 i n k s _ a on w M hne hi G.hn G.nk ha).mono ?_
  rintro en w' ⟨rfl, rfl⟩
  rw [hv]
  obtain ⟨S0, G0⟩ := G.tick (wrap64 (s + 1))
  obtain ⟨S1, G1⟩ := G0.set hi hx
  obtain ⟨S2, G2⟩ := G1.tick (wrap64 (wrap64 (s + 1) + 1))
  exact ⟨rfl, (S0.trans S1).trans S2, G2⟩
open Go.RowKit Go.Proofs
set_option linter.all false
theorem mark_pow : ∀ a : Fin 64, markV (2 ^ a.1) a.1 true = 2 ^ a.1 ∧ markV 0 a.1 true = 2 ^ a.1 ∧ markV (2 ^ a.1) a.1 false = 0 ∧ markV 0 a.1 false = 0 := by decide
theorem setEnds_rel {e : Env} {h : Hp} {w : World} {r q : Pth} {n k m D : Nat} {d : Wt} (G : MemR e h w r q n k m D d) {s : Nat} (hs : s < 256) (hn : 512 ≤ n) {hd tl : Nat} {x y z : Int}
    (hx : kn x = true) (hy : kn y = true) (hz : kn z = true) (ex : bits .or .u64 (IntKind.u64.wrap (IntKind.u64.wrap (tl : Int) * 65536)) (IntKind.u64.wrap (hd : Int)) = vl e x)
    (ey : markV (vl e (wg (wst d (256 + s) x) (8 + s / 64))) (s % 64) ((hd : Int) != 0) = vl e y)
    (ez : markV (vl e (wg (wst (wst d (256 + s) x) (8 + s / 64) y) 4)) (s / 64) (vl e y != 0) = vl e z) :
    Calls Tryz.prog 120 #[.pointer (some (adr e r 0)), .int .i64 (s : Int), .int .i64 (hd : Int), .int .i64 (tl : Int)] w fun en w' => en = .returned (.tuple #[]) ∧ Step e h w e (((h.set q (.w .u64 m D (wst d (256 + s) x))).set q (.w .u64 m D (wst (wst d (256 + s) x) (8 + s / 64) y))).set q (.w .u64 m D (wst (wst (wst d (256 + s) x) (8 + s / 64) y) 4 z))) w' ∧ MemR e (((h.set q (.w .u64 m D (wst d (256 + s) x))).set q (.w .u64 m D (wst (wst d (256 + s) x) (8 + s / 64) y))).set q (.w .u64 m D (wst (wst (wst d (256 + s) x) (8 + s / 64) y) 4 z))) w' r q n k m D (wst (wst (wst d (256 + s) x) (8 + s / 64) y) 4 z) := by
  go_enter Tryz.func120, Tryz.ntmps120
  go_wp2_with (first | (go_at_call 100; go_loud (rw [show (256 + (s : Int)) = ((256 + s : Nat) : Int) by omega]; (try simp only [ex]); refine (wr_rel G (i := 256 + s) (by omega) hx).mono ?_; rintro en w' ⟨rfl, S1, G1⟩)) | (go_at_call 199; rw [show ((s : Int) / 64) = ((s / 64 : Nat) : Int) by omega]; refine (mk_rel G2 (i := 4) (by omega) (a := s / 64) (by omega) _ hz ez).mono ?_; rintro en w' ⟨rfl, S3, G3⟩) | (go_at_call 199; rw [show (8 + (s : Int) / 64) = ((8 + s / 64 : Nat) : Int) by omega, show ((s : Int) % 64) = ((s % 64 : Nat) : Int) by omega]; refine (mk_rel G1 (i := 8 + s / 64) (by omega) (a := s % 64) (by omega) _ hy ey).mono ?_; rintro en w' ⟨rfl, S2, G2⟩))
  go_end0
  exact ⟨rfl, (S1.trans S2).trans S3, G3⟩
open Go.RowKit Go.Proofs
set_option linter.all false
theorem Step.ats {e e' : Env} {h h1 : Hp} {w w' : World} {b' : Tr B} (U : Step e h w e' h1 w') (hat : ∀ p, gt B.dd p b' = h1.at p) : Step e h w e' { h1 with b := b' } w' := by
  have a : ∀ p, ({ h1 with b := b' } : Hp).at p = h1.at p := hat
  refine ⟨⟨fun p hp => ?_, fun p p' hp hp' hne => ?_, fun p hp => ?_, fun p hp => ?_⟩, U.fz, U.ch, U.agr, U.le, U.os, U.tape, U.output, U.size, U.keep, fun p hp => ?_, fun p hp => ?_⟩
  · rw [a]; exact U.rel.ok p hp
  · rw [a, a]; exact U.rel.sep p p' hp hp' hne
  · rw [a]; exact U.rel.val p hp
  · rw [a]; exact U.rel.esc p hp
  · rw [a]; exact U.mine p hp
  · rw [a]; exact U.nd p hp
theorem MemR.same {e : Env} {h : Hp} {w : World} {r q : Pth} {n k m D : Nat} {d d' : Wt} (G : MemR e h w r q n k m D d) (hk : d'.kns = true) (hv : ∀ i, i < m → vl e (wg d' i) = vl e (wg d i)) : Step e h w e (h.set q (.w .u64 m D d')) w := by
  have g := G.H.ok q G.hq
  rw [G.aq] at g
  obtain ⟨j1, j2, j3, j4, j5⟩ := g
  exact Step.upd G.H G.hq (by rw [G.aq]; rfl) ⟨j1, fun i hi => by rw [hv i hi]; exact j2 i hi, j3, trivial, j5⟩ hk hk (fun _ _ => rfl) (Nat.le_refl _) rfl rfl rfl
open Go.RowKit Go.Proofs
set_option linter.all false
theorem wg_wst' (t : Wt) (i j : Nat) (x : Int) : wg (wst t i x) j = if j = i then x else wg t j :=
  wg_wst (n := i + j) x trivial (Nat.lt_of_lt_of_le Nat.lt_two_pow_self (Nat.pow_le_pow_right (by decide) (by omega))) (Nat.lt_of_lt_of_le Nat.lt_two_pow_self (Nat.pow_le_pow_right (by decide) (by omega)))
theorem kn_cQ {k i Q : Nat} (hk : k < 4) (hi : i < 4294967296) (hQ : Q < 18446744073709551616) : kn (.ofNat (cQ k i Q)) = true := by
  show Nat.blt _ unkN = true
  rw [Nat.blt_eq]; unfold cQ unkN qN; omega
theorem kns_mk (m : Nat) (o : List (Nat × Int)) : (Wt.mk m o).kns = o.all fun x => kn x.2 := rfl
theorem kns_l (Q : Nat) (hQ : Q < 18446744073709551616) : ∀ l : List Nat, (∀ i ∈ l, i < 256) → ((l.map fun i => (256 + i, Int.ofNat (cQ 0 i Q))).all fun x => kn x.2) = true
  | [], _ => rfl
  | i :: l, h => by
    rw [List.map_cons, List.all_cons, kns_l Q hQ l fun j hj => h j (List.mem_cons_of_mem _ hj), Bool.and_true]
    have := h i (List.mem_cons_self ..)
    exact kn_cQ (by omega) (by omega) hQ
theorem kns_qOv (Q : Nat) (hQ : Q < 18446744073709551616) : ((qOv Q).all fun x => kn x.2) = true := by
  have a : ∀ k i Q : Nat, k < 4 → i < 4294967296 → Q < 18446744073709551616 → kn (.ofNat (cQ k i Q)) = true := fun k i Q h1 h2 h3 => kn_cQ h1 h2 h3
  rw [qOv, List.all_cons, List.all_cons, List.all_cons, List.all_cons, List.all_cons, kns_l Q hQ _ fun i hi => List.mem_range.1 hi, a 2 0 0 (by omega) (by omega) (by omega), a 1 0 0 (by omega) (by omega) (by omega), a 1 1 0 (by omega) (by omega) (by omega), a 1 2 0 (by omega) (by omega) (by omega), a 1 3 0 (by omega) (by omega) (by omega)]
  simp only [Bool.and_true]
theorem kns_qS {d : Wt} {Q Q' : Nat} {r : List (Nat × Int)} {m : Nat} (h : QD d Q r m) (hd : d.kns = true) (hQ : Q' < 18446744073709551616) : (qS Q' r m).kns = true := by
  have hr : (r.all fun x => kn x.2) = true := by
    rw [h.d, kns_mk, List.all_append, Bool.and_eq_true] at hd
    exact hd.2
  rw [qS, kns_mk, List.all_append, hr, Bool.and_true]
  by_cases c : Q' = 0
  · rw [if_pos c]; rfl
  · rw [if_neg c]; exact kns_qOv Q' hQ
theorem fv16 (e : Env) : fval e.ρ 16 < 256 := by
  have := (fval_ok e.ρ 16).2
  have h : sBd 16 = 255 := rfl
  omega
theorem QD.vals {e : Env} {d : Wt} {Q : Nat} {r : List (Nat × Int)} {m i : Nat} (h : QD d Q r m) (hi : spc i = true) :
    vl e (wg d i) = if Q = 0 then 0 else if i = 4 then 2 ^ (fval e.ρ 16 / 64) else if i < 12 then (if i = 8 + fval e.ρ 16 / 64 then 2 ^ (fval e.ρ 16 % 64) else 0) else (if i = 256 + fval e.ρ 16 then (Q : Int) else 0) := by
  rw [h.at_spc hi]
  have hs := fv16 e
  simp only [spc, Bool.or_eq_true, Bool.and_eq_true, decide_eq_true_eq, beq_iff_eq] at hi
  by_cases hQ : Q = 0
  · rw [if_pos hQ, if_pos hQ]; exact vl_nat (a := 0) (by omega)
  rw [if_neg hQ, if_neg hQ]
  by_cases h4 : i = 4
  · rw [if_pos h4, if_pos h4, vl_cQ (by omega) (by omega) (by omega)]
    simp only [show ¬ (2 = 0) by omega, show ¬ (2 = 1) by omega, if_false, Int.natCast_pow]; rfl
  rw [if_neg h4, if_neg h4]
  by_cases h8 : 8 ≤ i ∧ i < 12
  · rw [if_pos h8, if_pos h8.2, vl_cQ (by omega) (by omega) (by omega)]
    simp only [show ¬ (1 = 0) by omega, if_false, if_true]
    by_cases c : i = 8 + fval e.ρ 16 / 64
    · rw [if_pos c, if_pos (by omega), Int.natCast_pow]; rfl
    · rw [if_neg c, if_neg (by omega)]; rfl
  · rw [if_neg h8, if_neg (by omega), vl_cQ (by omega) (by omega) h.Q]
    simp only [if_true]
    by_cases c : i = 256 + fval e.ρ 16
    · rw [if_pos c, if_pos (by omega)]
    · rw [if_neg c, if_neg (by omega)]; rfl
end Go.E
