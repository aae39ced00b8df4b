/- A part of the proof of the claim that the last text of this folder states. -/
import Derived.Test.YtebgbhgehnpahaaGreatDoorS12
namespace Go.E
set_option linter.all false
section
variable {Y : Lay} {P : Program} {κ : KP} {cal : Cal} {o : Oper} {op : J} {ro : Option Nat}
def WpE (Y : Lay) (P : Program) (κ : KP) (cal : Cal) (o : Oper) (op : J) (ro : Option Nat) : Prop :=
  ∀ t h k r, exJ op cal t h k = some r → ∃ v h1, (∀ k', exJ op cal t h k' = k' v h1) ∧ ∀ n e a w, EK e κ → OT Y e t (Pth.ok h.n.n) a (· ∈ o.op.operands) → Rel e h w → ∀ next Q,
    (∀ e' w' x, Step e h w e' h1 w' → Isu e' v x → v.ok h1.n.n = true → h1.df = h.df → next (a.put o.dst x) w') → o.wpIn (wd ro) n P a w next Q
theorem Acts.wpe (H : Acts Y P o op) (hno : ∀ c, o.op ≠ .defer c) : WpE Y P κ cal o op ro := by
  intro t h k r hr
  obtain ⟨v, h1, i1, i2, i3⟩ := H cal t h k r hr
  refine ⟨v, h1, i1 cal, fun n e a w _ hT hR next Q hn => ?_⟩
  obtain ⟨nx, x, w', e', j1, j2, j3, j4, j5⟩ := i3 e a w hT hR
  exact wpIn_run hno j1 j2 (hn e' w' x j3 j4 j5 i2)
theorem wpe_call {f : Pth} {args : List O} (hc : compI Y P o = some (.call f args)) (HC : CalOk Y P κ cal) : WpE Y P κ cal o (.call f args) ro := by
  intro t h k r hr
  obtain ⟨c, g, ho, hcal, rfl, hx⟩ := call_inv hc
  obtain ⟨v, h1, hr1, hr2⟩ := retK_some (show retK k (cal (.fn (Pth.of g) []) (evs t args) h) = some r from hr)
  refine ⟨v, h1, fun k' => ?_, fun n e a w hκ hT hR next Q hn => ?_⟩
  · show retK k' (cal (.fn (Pth.of g) []) (evs t args) h) = _
    rw [hr1]; rfl
  obtain ⟨a1, a2⟩ := args_is hT (fun x hx => by simp only [ho, Op.operands, Call.operands]; simp; first | exact .inl (by simpa using hx) | exact .inr (by simpa using hx) | exact (by simpa using hx)) hx
  have H := HC _ _ _ _ hr1 e w _ hκ hR hT.gl rfl a1 a2
  have hxs : (c.args.toList.map a.eval).toArray = c.args.map a.eval := by simp [← Array.toList_map]
  rw [hxs] at H
  refine call_wp ho hcal (s := .fn (Pth.of g) []) (by simp [S.tr, Pth.of_n, Act.eval]) H ?_
  rintro x w' ⟨e', i1, i2, i3, i4⟩
  exact hn e' w' x i1 i3 i4 i2
theorem wpe_callv {f : O} {args : List O} (hc : compI Y P o = some (.callv f args)) (HC : CalOk Y P κ cal) : WpE Y P κ cal o (.callv f args) ro := by
  intro t h k r hr
  obtain ⟨c, i, ho, hcal, rfl, hx⟩ := callv_inv hc
  obtain ⟨s, hs, hr0⟩ := asS_some (show asS (ev t (.t (Pth.of i))) _ = some r from hr)
  obtain ⟨v, h1, hr1, hr2⟩ := retK_some (show retK k (cal s (evs t args) h) = some r from hr0)
  refine ⟨v, h1, fun k' => ?_, fun n e a w hκ hT hR next Q hn => ?_⟩
  · show asS (ev t (.t (Pth.of i))) (fun s => retK k' (cal s (evs t args) h)) = _
    rw [hs, e_asS, hr1]; rfl
  obtain ⟨a1, a2⟩ := args_is hT (fun x hx => by simp only [ho, Op.operands, Call.operands]; simp; first | exact .inl (by simpa using hx) | exact .inr (by simpa using hx) | exact (by simpa using hx)) hx
  obtain ⟨e1, e2⟩ := ev_is hT (x := .tmp i) (y := .t (Pth.of i)) (by simp [ho, Op.operands, Call.operands, hcal]) rfl
  rw [hs] at e1 e2
  have H := HC _ _ _ _ hr1 e w _ hκ hR hT.gl e1 a1 a2
  have hnu : nU s = true := by cases s <;> first | rfl | exact H.elim
  have hn0 : a.eval (.tmp i) = s.tr e := by
    rcases e2 with e2 | e2
    · cases e2
    · exact e2.eq hnu
  have hxs : (c.args.toList.map a.eval).toArray = c.args.map a.eval := by simp [← Array.toList_map]
  rw [hxs] at H
  refine call_wp ho hcal (s := s) hn0 H ?_
  rintro x w' ⟨e', i1, i2, i3, i4⟩
  exact hn e' w' x i1 i3 i4 i2
theorem comp_nodefer {op : J} (hc : compI Y P o = some op) (hp : op.plain = true) : ∀ c, o.op ≠ .defer c := fun c ho => by
  unfold compI at hc
  rw [ho] at hc
  simp only at hc
  split at hc
  · simp only [Option.map_eq_some_iff] at hc
    obtain ⟨_, _, rfl⟩ := hc
    cases hp
  · cases hc
theorem wpe_all (hc : compI Y P o = some op) (HC : CalOk Y P κ cal) (hp : op.plain = true) : WpE Y P κ cal o op ro := by
  by_cases hcal : op.calls = true
  · cases op <;> first | (cases hcal; done) | (cases hp; done) | skip
    · exact wpe_call hc HC
    · exact wpe_callv hc HC
  · exact Acts.wpe ((comp_cls hc).acts (by simpa using hcal)) (comp_nodefer hc hp)
end
def GJ.op : GJ → J
  | .g _ op => op
  | .c _ op _ _ => op
def GJ.gd : GJ → Option (Pth × Bool)
  | .g _ _ => none
  | .c _ _ j w => some (j, w)
theorem GJ.d_g (d : Option Pth) (op : J) : (GJ.g d op).d = d := rfl
theorem GJ.d_c (d : Option Pth) (op : J) (j : Pth) (w : Bool) : (GJ.c d op j w).d = d := rfl
def GJ.on (g : GJ) (t : T) : Prop := match g.gd with
  | none => True
  | some (j, w) => gt vu j t = .s (.b w)
def GJ.off (g : GJ) (t : T) : Prop := match g.gd with
  | none => False
  | some (j, w) => gt vu j t = vu ∨ gt vu j t = .s (.b (!w))
theorem exG_out {g : GJ} {cal : Cal} {t : T} {h : Hp} {k : KT} {r : RES} (hr : exG g cal t h k = some r) :
    (g.on t ∧ (∀ k, exG g cal t h k = exJ g.op cal t h fun v h => k (putT g.d t v) h)) ∨ (g.off t ∧ ∀ k, exG g cal t h k = k (putT g.d t vu) h) := by
  cases g with
  | g d op =>
    refine .inl ⟨trivial, fun k => ?_⟩
    show exJ op cal t h (fun v h => putK d t v fun t => k t h) = _
    simp only [putK_eq]; rfl
  | c d op j w =>
    have hr : gdK t j w (g_g d op cal t h k) (putK d t vu fun t => k t h) = some r := hr
    have hg : ∀ k, exG (.c d op j w) cal t h k = gdK t j w (g_g d op cal t h k) (putK d t vu fun t => k t h) := fun k => rfl
    have key : ∀ q (y n : Ans), gt vu j t = .s (.b q) → gdK t j w y n = if q = w then y else n := fun q y n hq => by
      unfold gdK
      rw [gtV_eq, hq]
      cases q <;> cases w <;> rfl
    rcases gdK_out hr with ⟨q, hq, _⟩ | ⟨hq, _⟩
    · by_cases hqw : q = w
      · refine .inl ⟨by show gt vu j t = .s (.b w); rw [hq, hqw], fun k => ?_⟩
        rw [hg, key q _ _ hq, if_pos hqw]
        show exJ op cal t h (fun v h => putK d t v fun t => k t h) = _
        simp only [putK_eq]; rfl
      · refine .inr ⟨.inr ?_, fun k => ?_⟩
        · rw [hq]; cases q <;> cases w <;> first | rfl | exact absurd rfl hqw
        · rw [hg, key q _ _ hq, if_neg hqw, putK_eq]; rfl
    · refine .inr ⟨.inl hq, fun k => ?_⟩
      rw [hg]
      unfold gdK
      rw [gtV_eq, hq, putK_eq]; rfl
def Does (g : GJ) (cal : Cal) (t : T) (h : Hp) (v : V) (h' : Hp) : Prop := ∀ k, exG g cal t h k = k (putT g.d t v) h'
section
variable {Y : Lay} {P : Program} {N : Nat} {κ : KP} {cal : Cal} {ops : Array Oper} {o : Oper} {g : GJ}
theorem compG_op (hg : compG Y P N ops o = some g) : compI Y P o = some g.op ∧ g.d = o.dst.map Pth.of ∧ (∀ i, o.dst = some i → i < N) ∧
    ((o.guard = none ∧ g.gd = none) ∨ ∃ j want oj d, o.guard = some (j, want) ∧ ops[j]? = some oj ∧ oj.dst = some d ∧ g.gd = some (Pth.of d, want)) := by
  obtain ⟨op, h1, h2, h3⟩ := compG_spec hg
  rcases h3 with ⟨h3, rfl⟩ | ⟨j, want, oj, d, h3, h4, h5, rfl⟩
  · exact ⟨h1, rfl, h2, .inl ⟨h3, rfl⟩⟩
  · exact ⟨h1, rfl, h2, .inr ⟨j, want, oj, d, h3, h4, h5, rfl⟩⟩
theorem does_all (HC : CalOk Y P κ cal) (hg : compG Y P N ops o = some g) (hp : g.plain = true) {t : T} {h : Hp} {k : KT} {r : RES} (hr : exG g cal t h k = some r) : ∃ v h', Does g cal t h v h' ∧ (g.kind ≤ 1 → h' = h) ∧ (g.kind = 2 → ∃ x, h' = h.push x) := by
  obtain ⟨h1, _, _, _⟩ := compG_op hg
  have hp2 : g.op.plain = true := by cases g <;> exact hp
  rcases exG_out hr with ⟨_, h2⟩ | ⟨hoff, h2⟩
  · rw [h2] at hr
    obtain ⟨v, h', i1, _⟩ := wpe_all (ro := none) h1 HC hp2 t h _ r hr
    refine ⟨v, h', fun k => by rw [h2, i1], fun hk => ?_, fun hk => ?_⟩
    · have hk1 : g.op.kind ≤ 1 := by
        cases g with
        | g d op => exact hk
        | c d op j w =>
          have hk : (if op.kind = 2 then 3 else op.kind) ≤ 1 := hk
          show op.kind ≤ 1
          split at hk <;> omega
      have hl : Looks Y P o g.op := by
        cases comp_cls h1 with
        | p H k => exact H.looks
        | l H k => exact H
        | m H k => omega
        | a H k c => omega
        | c k c => omega
      obtain ⟨v', j1, _⟩ := hl cal t h _ r hr
      have := (i1 fun v h => some (v, h)).symm.trans (j1 cal fun v h => some (v, h))
      cases this
      rfl
    · have hk1 : g.op.kind = 2 := by
        cases g with
        | g d op => exact hk
        | c d op j w =>
          have hk : (if op.kind = 2 then 3 else op.kind) = 2 := hk
          split at hk <;> omega
      have hl : Makes Y P o g.op := by
        cases comp_cls h1 with
        | p H k => omega
        | l H k => omega
        | m H k => exact H
        | a H k c => omega
        | c k c => omega
      obtain ⟨v', x, j1, _⟩ := hl cal t h _ r hr
      have := (i1 fun v h => some (v, h)).symm.trans (j1 cal h fun v h => some (v, h))
      cases this
      exact ⟨x, rfl⟩
  · refine ⟨vu, h, fun k => h2 k, fun _ => rfl, fun hk => ?_⟩
    cases g with
    | g d op => exact hoff.elim
    | c d op j w =>
      have hk : (if op.kind = 2 then 3 else op.kind) = 2 := hk
      split at hk <;> omega
end
theorem mem_take_iff {l : List Nat} {j k : Nat} : k ∈ l.take j ↔ ∃ i, i < j ∧ l[i]? = some k := by
  rw [List.mem_iff_getElem?]
  constructor
  · rintro ⟨i, hi⟩
    rw [List.getElem?_take] at hi
    split at hi
    · exact ⟨i, by assumption, hi⟩
    · cases hi
  · rintro ⟨i, h1, h2⟩
    exact ⟨i, by rw [List.getElem?_take, if_pos h1]; exact h2⟩
theorem compGs_get {Y : Lay} {P : Program} {N : Nat} {ops : Array Oper} : ∀ {os : List Oper} {gl : List GJ}, compGs Y P N ops os = some gl → gl.length = os.length ∧ ∀ (i : Nat) (o : Oper) (g : GJ), os[i]? = some o → gl[i]? = some g → compG Y P N ops o = some g
  | [], gl, h => by
    simp only [compGs, Option.some.injEq] at h; subst h
    exact ⟨rfl, fun i o g ho => by simp at ho⟩
  | o0 :: os, gl, h => by
    obtain ⟨g0, l, rfl, h1, h2⟩ := compGs_cons h
    obtain ⟨i1, i2⟩ := compGs_get h2
    refine ⟨by simp [i1], fun i o g ho hg => ?_⟩
    cases i with
    | zero => simp only [List.getElem?_cons_zero, Option.some.injEq] at ho hg; subst ho; subst hg; exact h1
    | succ i => simp only [List.getElem?_cons_succ] at ho hg; exact i2 i o g ho hg
def StepX (cal : Cal) (x : XJ) (t : T) (h : Hp) (v : V) (t' : T) (h' : Hp) : Prop := match x with
  | .lt g => Does g cal t h v h' ∧ t' = putT g.d t v
  | .hv g chk => Does g cal t h v h' ∧ t' = putT g.d t v ∧ h.n.n ≤ h'.n.n ∧ ∀ c ∈ chk, ∃ u, Does c cal t' h' u h' ∧ ∀ p, c.d = some p → u = gt vu p t'
def XJ.g : XJ → GJ
  | .lt g => g
  | .hv g _ => g
def XJ.chk : XJ → List GJ
  | .lt _ => []
  | .hv _ c => c
theorem lk1_out {Y : Lay} {P : Program} {N : Nat} {ops : Array Oper} {o : Oper} {c : GJ} {cal : Cal} (hc : compG Y P N ops o = some c) (hk : c.kind = 1) {t : T} {h : Hp} {f : V → Ans} {r : RES} (hr : lk1 c t h f = some r) : ∃ u, Does c cal t h u h ∧ f u = some r := by
  obtain ⟨h1, _, _, _⟩ := compG_op hc
  have hk1 : c.op.kind = 1 := by
    cases c with
    | g d op => exact hk
    | c d op j w =>
      have hk : (if op.kind = 2 then 3 else op.kind) = 1 := hk
      show op.kind = 1
      split at hk <;> omega
  have hl : Looks Y P o c.op := by
    cases comp_cls h1 with
    | p H k => omega
    | l H k => exact H
    | m H k => omega
    | a H k c => omega
    | c k c => omega
  cases c with
  | g d op =>
    have hr : exJ op noCal t h (fun v _ => f v) = some r := hr
    obtain ⟨v, i1, _⟩ := hl noCal t h _ r hr
    have i1 : ∀ (cal : Cal) (k : KV), exJ op cal t h k = k v h := i1
    rw [i1] at hr
    refine ⟨v, fun k => ?_, hr⟩
    show exJ op cal t h (fun v h => putK d t v fun t => k t h) = _
    rw [i1, putK_eq]; rfl
  | c d op j w =>
    have hr : gdK t j w (exJ op noCal t h fun v _ => f v) (f vu) = some r := hr
    have key : ∀ q (y n : Ans), gt vu j t = .s (.b q) → gdK t j w y n = if q = w then y else n := fun q y n hq => by
      unfold gdK
      rw [gtV_eq, hq]
      cases q <;> cases w <;> rfl
    rcases gdK_out hr with ⟨q, hq, hr⟩ | ⟨hq, hr⟩
    · by_cases hqw : q = w
      · rw [if_pos hqw] at hr
        obtain ⟨v, i1, _⟩ := hl noCal t h _ r hr
        have i1 : ∀ (cal : Cal) (k : KV), exJ op cal t h k = k v h := i1
        rw [i1] at hr
        refine ⟨v, fun k => ?_, hr⟩
        show gdK t j w (exJ op cal t h fun v h => putK d t v fun t => k t h) (putK d t vu fun t => k t h) = _
        rw [key q _ _ hq, if_pos hqw, i1, putK_eq]; rfl
      · rw [if_neg hqw] at hr
        refine ⟨vu, fun k => ?_, hr⟩
        show gdK t j w (exJ op cal t h fun v h => putK d t v fun t => k t h) (putK d t vu fun t => k t h) = _
        rw [key q _ _ hq, if_neg hqw, putK_eq]; rfl
    · refine ⟨vu, fun k => ?_, hr⟩
      show gdK t j w (exJ op cal t h fun v h => putK d t v fun t => k t h) (putK d t vu fun t => k t h) = _
      unfold gdK
      rw [gtV_eq, hq, putK_eq]; rfl
theorem ckK_out {cal : Cal} {t : T} {h : Hp} {c : Unit → Ans} {r : RES} : ∀ {l : List GJ}, (∀ x ∈ l, ∀ (f : V → Ans) (r : RES), lk1 x t h f = some r → ∃ u, Does x cal t h u h ∧ f u = some r) → ckK l t h c = some r → c () = some r ∧ ∀ x ∈ l, ∃ u, Does x cal t h u h ∧ ∀ p, x.d = some p → u = gt vu p t
  | [], _, hr => ⟨hr, fun x hx => by cases hx⟩
  | g :: l, hL, hr => by
    have hr : (lk1 g t h fun v => Option.casesOn g.d (ckK l t h c) fun p => onB (vEq v (gtV p t)) (ckK l t h c) none) = some r := hr
    obtain ⟨u, i1, i2⟩ := hL g List.mem_cons_self _ r hr
    have i3 : ckK l t h c = some r ∧ ∀ p, g.d = some p → u = gt vu p t := by
      cases hd : g.d with
      | none => rw [hd] at i2; exact ⟨i2, fun p hp => by cases hp⟩
      | some p =>
        rw [hd] at i2
        obtain ⟨j1, j2⟩ := onB_t (show onB (vEq u (gtV p t)) (ckK l t h c) none = some r from i2)
        rw [gtV_eq] at j1
        exact ⟨j2, fun p' hp => by cases hp; exact vEq_eq j1⟩
    obtain ⟨k1, k2⟩ := ckK_out (fun x hx => hL x (List.mem_cons_of_mem _ hx)) i3.1
    refine ⟨k1, fun x hx => ?_⟩
    rcases List.mem_cons.1 hx with rfl | hx
    · exact ⟨u, i1, i3.2⟩
    · exact k2 x hx
theorem exXs_trace {cal : Cal} : ∀ (xs : List XJ), (∀ x ∈ xs, (∀ (t : T) (h : Hp) (k : KT) (r : RES), exG x.g cal t h k = some r → ∃ v h', Does x.g cal t h v h') ∧ ∀ c ∈ x.chk, ∀ (t : T) (h : Hp) (f : V → Ans) (r : RES), lk1 c t h f = some r → ∃ u, Does c cal t h u h ∧ f u = some r) →
    ∀ (t : T) (h : Hp) (k : KT) (r : RES), exXs xs cal t h k = some r → ∃ (val : Nat → V) (hp : Nat → Hp) (tm : Nat → T), tm 0 = t ∧ hp 0 = h ∧ k (tm xs.length) (hp xs.length) = some r ∧ ∀ (j : Nat) (x : XJ), xs[j]? = some x → StepX cal x (tm j) (hp j) (val j) (tm (j + 1)) (hp (j + 1))
  | [], _, t, h, k, r, hr => ⟨fun _ => vu, fun _ => h, fun _ => t, rfl, rfl, hr, fun j x hx => by simp at hx⟩
  | x :: xs, hN, t, h, k, r, hr => by
    have fin : ∀ (v : V) (t' : T) (h' : Hp), StepX cal x t h v t' h' → exXs xs cal t' h' k = some r → ∃ (val : Nat → V) (hp : Nat → Hp) (tm : Nat → T), tm 0 = t ∧ hp 0 = h ∧ k (tm (x :: xs).length) (hp (x :: xs).length) = some r ∧ ∀ (j : Nat) (y : XJ), (x :: xs)[j]? = some y → StepX cal y (tm j) (hp j) (val j) (tm (j + 1)) (hp (j + 1)) := fun v t' h' hS hr => by
      obtain ⟨val, hp, tm, i1, i2, i3, i4⟩ := exXs_trace xs (fun y hy => hN y (List.mem_cons_of_mem _ hy)) t' h' k r hr
      refine ⟨fun j => match j with | 0 => v | j + 1 => val j, fun j => match j with | 0 => h | j + 1 => hp j, fun j => match j with | 0 => t | j + 1 => tm j, rfl, rfl, i3, fun j y hy => ?_⟩
      cases j with
      | zero =>
        simp only [List.getElem?_cons_zero, Option.some.injEq] at hy
        subst hy
        simp only [i1, i2]
        exact hS
      | succ j =>
        simp only [List.getElem?_cons_succ] at hy
        exact i4 j y hy
    obtain ⟨n1, n2⟩ := hN x List.mem_cons_self
    cases x with
    | lt g =>
      have hr : exG g cal t h (fun t h => exXs xs cal t h k) = some r := hr
      obtain ⟨v, h', i1⟩ := n1 t h _ r hr
      rw [show exG g cal t h (fun t h => exXs xs cal t h k) = _ from i1 _] at hr
      exact fin v _ h' ⟨i1, rfl⟩ hr
    | hv g chk =>
      have hr : exG g cal t h (fun t' h' => onB (Nat.ble h.n.n h'.n.n) (ckK chk t' h' fun _ => exXs xs cal t' h' k) none) = some r := hr
      obtain ⟨v, h', i1⟩ := n1 t h _ r hr
      rw [show exG g cal t h (fun t' h' => onB (Nat.ble h.n.n h'.n.n) (ckK chk t' h' fun _ => exXs xs cal t' h' k) none) = _ from i1 _] at hr
      obtain ⟨i2, i3⟩ := onB_t hr
      obtain ⟨i4, i5⟩ := ckK_out (cal := cal) (fun c hc f r hr => n2 c hc _ _ f r hr) i3
      exact fin v _ h' ⟨i1, rfl, nat_le i2, i5⟩ i4
theorem chkOf_mem {gl : List GJ} {s : List Nat} {c : GJ} : ∀ {l : List Nat}, c ∈ chkOf gl s l → ∃ k ∈ l, gl[k]? = some c ∧ c.kind = 1
  | [], h => by cases h
  | k :: ks, h => by
    simp only [chkOf] at h
    split at h
    · rename_i g hg
      split at h
      · rename_i hc
        rcases List.mem_cons.1 h with rfl | h
        · exact ⟨k, List.mem_cons_self, hg, hc.1⟩
        · obtain ⟨k', h1, h2⟩ := chkOf_mem h
          exact ⟨k', List.mem_cons_of_mem _ h1, h2⟩
      · obtain ⟨k', h1, h2⟩ := chkOf_mem h
        exact ⟨k', List.mem_cons_of_mem _ h1, h2⟩
    · obtain ⟨k', h1, h2⟩ := chkOf_mem h
      exact ⟨k', List.mem_cons_of_mem _ h1, h2⟩
theorem chkOf_has {gl : List GJ} {s : List Nat} {c : GJ} {k : Nat} : ∀ {l : List Nat}, k ∈ l → gl[k]? = some c → c.kind = 1 → k ∉ s → c ∈ chkOf gl s l
  | [], h, _, _, _ => by cases h
  | k' :: ks, h, h1, h2, h3 => by
    simp only [chkOf]
    rcases List.mem_cons.1 h with rfl | h
    · rw [h1]
      simp only
      rw [if_pos ⟨h2, by simpa using h3⟩]
      exact List.mem_cons_self
    · have := chkOf_has (s := s) h h1 h2 h3
      split
      · split
        · exact List.mem_cons_of_mem _ this
        · exact this
      · exact this
section
variable {f : Pth → Bool} {e e' : Env} (A : AgrF f e e')
include A
theorem AgrF.is {v : V} {x : Value} (h : v.rf f = true) (H : Is e v x) : Is e' v x := by
  rcases H with k | k
  · exact .inl (by rw [A.v h]; exact k)
  · exact .inr k
theorem AgrF.isu {v : V} {x : Value} (h : v.rf f = true) (H : Isu e v x) : Isu e' v x := H.imp id (A.is h)
theorem AgrF.t {t : T} {tm : Array Value} (h : t.rf f = true) (H : TR e t tm) : TR e' t tm := fun p => (H p).imp id (A.is (Tr.rf_gt h))
theorem OkB.moveF (hκ : e'.κ = e.κ) {w w' : World} {r : Pth} {b : B} (h : OkB e w r b) (hσ : e'.σ r = e.σ r) (hδ : e'.δ r = e.δ r) (hv : b.rf f = true)
    (hs : w.heap.size ≤ w'.heap.size) (hb : b ≠ .dd → w'.heap[(e.σ r).1]? = w.heap[(e.σ r).1]?) : OkB e' w' r b := by
  have hadr : ∀ i, E.adr e' r i = E.adr e r i := fun i => by simp only [E.adr, hσ]
  have hvl : ∀ x, E.vl e' x = E.vl e x := fun x => by simp only [E.vl, A.ρ, A.β]
  have hc : ∀ i, b ≠ .dd → w'.cell? (E.adr e' r i) = w.cell? (E.adr e r i) := fun i hd => by
    rw [hadr]; exact cell?_blk (hb hd)
  have hf : ∀ i, b ≠ .dd → w'.frozen? (E.adr e' r i) = w.frozen? (E.adr e r i) := fun i hd => by
    rw [hadr]; exact frozen?_blk (hb hd)
  have hH : ∀ cs, b ≠ .dd → cs.all (S.rf f) = true → Holds e w r cs → Holds e' w' r cs := fun cs hd ho hH i s hi => by
    rw [hc i hd, A.s (by simp only [List.all_eq_true] at ho; exact ho s (List.mem_of_getElem? hi))]
    exact hH i s hi
  have hR : ∀ k, b ≠ .dd → Room e w r k → Room e' w' r k := fun k hd hR i hi => by rw [hc i hd, hf i hd]; exact hR i hi
  cases b with
  | dd => trivial
  | ro cs => exact ⟨by rw [hσ]; have := h.1; omega, hH cs (by simp) hv h.2⟩
  | c cs => exact ⟨by rw [hσ]; have := h.1; omega, hH cs (by simp) hv h.2.1, hR _ (by simp) h.2.2⟩
  | gr cs m es => exact ⟨by rw [hσ]; have := h.1; omega, hH cs (by simp) hv h.2.1, h.2.2.1, by rw [hδ]; exact hR _ (by simp) h.2.2.2⟩
  | w k m D d => exact ⟨by rw [hσ]; have := h.1; omega, fun i hi => by rw [hc i (by simp), hvl]; exact h.2.1 i hi, hR _ (by simp) h.2.2.1, h.2.2.2⟩
  | mp es ck =>
    unfold OkB at h ⊢
    rw [hσ, hb (by simp), h]
    simp only [B.rf, List.all_eq_true, Bool.and_eq_true] at hv
    congr 3
    exact List.map_congr_left fun x hx => by simp only [entT, A.v (V.rk_rf (hv x hx).1), A.v (V.rk_rf (hv x hx).2)]
  | it m a b c =>
    obtain ⟨h0, h⟩ := h
    refine ⟨by rw [hσ]; exact h0, ?_⟩
    rw [hσ, hb (by simp), h]
    cases m with
    | none => rfl
    | some q => simp only [Option.map_some, A.σ q hv]
  | ml es =>
    obtain ⟨l, ck, h1, h2⟩ := h
    refine ⟨l, ck, ?_, h2⟩
    simp only [B.rf, List.all_eq_true, Bool.and_eq_true] at hv
    rw [hσ, hb (by simp), h1]
    congr 3
    refine List.map_congr_left fun x hx => ?_
    have := hv _ (h2.mem_iff.1 (List.mem_map.2 ⟨x, hx, rfl⟩))
    simp only [entT, A.v (V.rk_rf this.1), A.v (V.rk_rf this.2)]
  | lp t ps asg body st pend =>
    obtain ⟨L, h1, h2, h3, h4, h5, h6, h7, h8⟩ := h
    exact ⟨L, by rw [hσ, hb (by simp), h1], h2, h3, A.t hv h4, h5, by rw [hκ]; exact h6, by rw [hκ]; exact h7, h8⟩
  | dq => unfold OkB at h ⊢; rw [hσ, hb (by simp), h]
  | cu s => exact ⟨by rw [hσ]; have := h.1; omega, by rw [hc 0 (by simp), A.s hv]; exact h.2.1, by rw [hc 1 (by simp)]; exact h.2.2.1, hR _ (by simp) h.2.2.2⟩
  | rb k => exact ⟨by rw [hσ]; have := h.1; omega, fun i hi => by rw [hc i (by simp)]; exact h.2 i hi⟩
end
theorem Rel.agr {e e' : Env} {h : Hp} {w : World} (H : Rel e h w) (A : Agr h.n.n e e') : Rel e' h w :=
  ⟨fun r hr => (H.ok r hr).move A hr (H.val r hr) (Nat.le_refl _) (fun _ => rfl), fun r r' hr hr' => by rw [A.σ r hr, A.σ r' hr']; exact H.sep r r' hr hr', H.val, H.esc⟩
theorem Step.agr2 {e e' e2 : Env} {h h' : Hp} {w w' : World} (S : Step e h w e' h' w') (A : Agr h'.n.n e' e2) : Step e h w e2 h' w' :=
  ⟨S.rel.agr A, S.fz, S.ch, S.agr.trans A S.le, S.le, S.os, S.tape, S.output, S.size, S.keep, fun r hr hw => by rw [A.σ r hr]; exact S.mine r hr hw, fun r hr hw => by rw [A.σ r hr]; exact S.nd r hr hw⟩
structure Reg (Y : Lay) (P : Program) (N M : Nat) (κ : KP) (cal : Cal) where
  ops : Array Oper
  gl : List GJ
  ord : List Nat
  xs : List XJ
  val : Nat → V
  hp : Nat → Hp
  tm : Nat → T
  e0 : Env
  a0 : Act
  w0 : World
  HC : CalOk Y P κ cal
  hNM : N ≤ M
  hgl : ∀ (i : Nat) (o : Oper) (g : GJ), ops[i]? = some o → gl[i]? = some g → compG Y P N ops o = some g
  pos : ∀ (j i : Nat), ord[j]? = some i → ∃ o g x s, xs[j]? = some x ∧ PosOk ops gl (ord.take j) i o g x s
  ins : Nat → Bool
  im : Nat
  insd : ∀ (i : Nat) (o : Oper), ops[i]? = some o → ins i = true → o.dst = none
  insn : ∀ j i : Nat, ord[j]? = some i → ins i = false
  imz : ∀ j j' i' : Nat, ord[j]? = some im → ord[j']? = some i' → kindOf gl i' = 3 → j' < j
  all : ∀ i, i < ops.size → ins i = false → ∃ j : Nat, ord[j]? = some i
  len : xs.length = ord.length
  trc : ∀ (j : Nat) (x : XJ), xs[j]? = some x → StepX cal x (tm j) (hp j) (val j) (tm (j + 1)) (hp (j + 1))
  hκ : EK e0 κ
  rel : Rel e0 (hp 0) w0
  gly : Gl Y e0 (Pth.ok (hp 0).n.n)
  ts : TS P M e0 (hp 0) (tm 0) a0
section
variable {Y : Lay} {P : Program} {N M : Nat} {κ : KP} {cal : Cal} (R : Reg Y P N M κ cal)
theorem Reg.noins {k : Nat} {o : Oper} {d : Nat} (ho : R.ops[k]? = some o) (hd : o.dst = some d) : R.ins k = false := by
  cases h : R.ins k with
  | false => rfl
  | true => have := R.insd k o ho h; rw [hd] at this; cases this
theorem Reg.kd {i : Nat} {g : GJ} (h : R.gl[i]? = some g) : kindOf R.gl i = g.kind := by simp only [kindOf, h]
theorem Reg.uniq {j j' i : Nat} (h : R.ord[j]? = some i) (h' : R.ord[j']? = some i) : j = j' := by
  obtain ⟨_, _, _, _, _, k⟩ := R.pos j i h
  obtain ⟨_, _, _, _, _, k'⟩ := R.pos j' i h'
  rcases Nat.lt_trichotomy j j' with c | c | c
  · exact absurd (mem_take_iff.2 ⟨j, c, h⟩) k'.nodup
  · exact c
  · exact absurd (mem_take_iff.2 ⟨j', c, h'⟩) k.nodup
theorem Reg.at_ {j i : Nat} (h : R.ord[j]? = some i) : ∃ o g x s, R.xs[j]? = some x ∧ PosOk R.ops R.gl (R.ord.take j) i o g x s ∧ Does g cal (R.tm j) (R.hp j) (R.val j) (R.hp (j + 1)) ∧ R.tm (j + 1) = putT g.d (R.tm j) (R.val j) ∧ compG Y P N R.ops o = some g := by
  obtain ⟨o, g, x, s, h1, h2⟩ := R.pos j i h
  have h3 := R.trc j x h1
  have hg := R.hgl i o g h2.ho h2.hg
  rw [h2.x] at h3
  refine ⟨o, g, x, s, h1, h2, ?_⟩
  split at h3
  · exact ⟨h3.1, h3.2.1, hg⟩
  · exact ⟨h3.1, h3.2, hg⟩
theorem Reg.does {j i : Nat} {o : Oper} {g : GJ} (h2 : compG Y P N R.ops o = some g) (hp : g.plain = true) (hD : Does g cal (R.tm j) (R.hp j) (R.val j) (R.hp (j + 1))) : (g.kind ≤ 1 → R.hp (j + 1) = R.hp j) ∧ (g.kind = 2 → ∃ x, R.hp (j + 1) = (R.hp j).push x) := by
  obtain ⟨v, h', i1, i2, i3⟩ := does_all R.HC h2 hp (t := R.tm j) (h := R.hp j) (k := fun _ h => some (vu, h)) (r := (vu, R.hp (j + 1))) (hD _)
  have := (hD fun t h => some (vu, h)).symm.trans (i1 fun t h => some (vu, h))
  cases this
  exact ⟨i2, i3⟩
theorem Reg.mono1 {j i : Nat} (h : R.ord[j]? = some i) : (R.hp j).n.n ≤ (R.hp (j + 1)).n.n := by
  obtain ⟨o, g, x, s, h1, h2, h3, h4, h5⟩ := R.at_ h
  by_cases hk : g.kind = 3
  · have h6 := R.trc j x h1
    rw [h2.x, if_pos hk] at h6
    exact h6.2.2.1
  · obtain ⟨d1, d2⟩ := R.does (i := i) h5 h2.plain h3
    by_cases hk1 : g.kind ≤ 1
    · rw [d1 hk1]; exact Nat.le_refl _
    · have hk2 : g.kind = 2 := by
        have : g.kind ≤ 3 := by
          have hop : ∀ op : J, op.kind ≤ 3 := fun op => by cases op <;> simp [J.kind]
          cases g with
          | g d op => exact hop op
          | c d op j w =>
            show (if op.kind = 2 then 3 else op.kind) ≤ 3
            split
            · omega
            · exact hop op
        omega
      obtain ⟨y, hy⟩ := d2 hk2
      rw [hy, Hp.n_push]; omega
theorem Reg.mono {j j' : Nat} (h : j ≤ j') (hl : j' ≤ R.ord.length) : (R.hp j).n.n ≤ (R.hp j').n.n := by
  induction j' with
  | zero => have : j = 0 := by omega
            subst this; exact Nat.le_refl _
  | succ m ih =>
    by_cases hj : j = m + 1
    · rw [hj]; exact Nat.le_refl _
    · have hm : m < R.ord.length := by omega
      exact Nat.le_trans (ih (by omega) (by omega)) (R.mono1 (j := m) (i := R.ord[m]) (List.getElem?_eq_getElem hm))
theorem Reg.tm_oth {p : Pth} {j : Nat} (hj : j ≤ R.ord.length) (h : ∀ j' i o, j' < j → R.ord[j']? = some i → R.ops[i]? = some o → o.dst ≠ some p.n) : gt vu p (R.tm j) = gt vu p (R.tm 0) := by
  induction j with
  | zero => rfl
  | succ m ih =>
    have hm : m < R.ord.length := by omega
    obtain ⟨o, g, x, s, h1, h2, h3, h4, h5⟩ := R.at_ (j := m) (i := R.ord[m]) (List.getElem?_eq_getElem hm)
    obtain ⟨_, hd, _, _⟩ := compG_op h5
    rw [h4, ← ih (by omega) fun j' i o hj' => h j' i o (by omega)]
    have hne := h m R.ord[m] o (by omega) (List.getElem?_eq_getElem hm) h2.ho
    rw [hd]
    cases hdst : o.dst with
    | none => rfl
    | some d =>
      show gt vu p (st vu (Pth.of d) (R.val m) (R.tm m)) = _
      rw [gt_st, if_neg]
      intro c
      exact hne (by rw [hdst, c, Pth.of_n])
theorem Reg.tm_dst {j' i : Nat} {o : Oper} {d : Nat} (hi : R.ord[j']? = some i) (ho : R.ops[i]? = some o) (hd : o.dst = some d) {j : Nat} (hj : j' < j) (hl : j ≤ R.ord.length) : gt vu (Pth.of d) (R.tm j) = R.val j' := by
  induction j with
  | zero => omega
  | succ m ih =>
    have hm : m < R.ord.length := by omega
    obtain ⟨o2, g, x, s, h1, h2, h3, h4, h5⟩ := R.at_ (j := m) (i := R.ord[m]) (List.getElem?_eq_getElem hm)
    obtain ⟨_, hd2, _, _⟩ := compG_op h5
    rw [h4, hd2]
    by_cases hjm : j' = m
    · subst hjm
      have : R.ord[j'] = i := Option.some.inj ((List.getElem?_eq_getElem hm).symm.trans hi)
      have ho2 := h2.ho
      rw [this, ho] at ho2
      cases ho2
      rw [hd]
      show gt vu (Pth.of d) (st vu (Pth.of d) (R.val j') (R.tm j')) = _
      rw [gt_st, if_pos rfl]
    · rw [← ih (by omega) (by omega)]
      cases hdst : o2.dst with
      | none => rfl
      | some d2 =>
        show gt vu (Pth.of d) (st vu (Pth.of d2) (R.val m) (R.tm m)) = _
        rw [gt_st, if_neg]
        intro c
        have hdd : d = d2 := by have := congrArg Pth.n c; simpa [Pth.of_n] using this
        have hne : i ≠ R.ord[m] := fun c => hjm (R.uniq hi (by rw [c]; exact List.getElem?_eq_getElem hm))
        exact h2.dist i o d ho hd hne (by rw [hdst, hdd])
end
section
variable {Y : Lay} {P : Program} {N M : Nat} {κ : KP} {cal : Cal} (R : Reg Y P N M κ cal)
def Reg.pendP (D : Nat → Prop) (s : Nat) (q : Pth) : Prop := ∃ (j i : Nat), s ≤ j ∧ R.ord[j]? = some i ∧ kindOf R.gl i = 2 ∧ D i ∧ q = (R.hp j).n
open Classical in
noncomputable def Reg.G (D : Nat → Prop) (s b : Nat) (q : Pth) : Bool := decide (q.n < (R.hp s).n.n ∨ (q.n < b ∧ R.pendP D s q))
theorem Reg.G_iff {D : Nat → Prop} {s b : Nat} {q : Pth} : R.G D s b q = true ↔ (q.n < (R.hp s).n.n ∨ (q.n < b ∧ R.pendP D s q)) := by unfold Reg.G; simp
theorem Reg.G_mono {D D' : Nat → Prop} {s b b' : Nat} (hD : ∀ i, D i → D' i) (hb : b ≤ b') {q : Pth} (h : R.G D s b q = true) : R.G D' s b' q = true := by
  rw [Reg.G_iff] at *
  rcases h with h | ⟨h1, j, i, h2, h3, h4, h5, h6⟩
  · exact .inl h
  · exact .inr ⟨by omega, j, i, h2, h3, h4, hD i h5, h6⟩
theorem Reg.push_at {j i : Nat} (h : R.ord[j]? = some i) (hk : kindOf R.gl i = 2) : ∃ x, R.hp (j + 1) = (R.hp j).push x := by
  obtain ⟨o, g, x, s, h1, h2, h3, h4, h5⟩ := R.at_ h
  rw [R.kd h2.hg] at hk
  exact (R.does (i := i) h5 h2.plain h3).2 hk
theorem Reg.G_stage {D : Nat → Prop} {s s' b : Nat} (hs : s ≤ s') (hl : s' ≤ R.ord.length) {q : Pth} (h : R.G D s b q = true) : R.G D s' b q = true := by
  rw [Reg.G_iff] at *
  rcases h with h | ⟨h1, j, i, h2, h3, h4, h5, h6⟩
  · exact .inl (Nat.lt_of_lt_of_le h (R.mono hs hl))
  · by_cases hj : s' ≤ j
    · exact .inr ⟨h1, j, i, hj, h3, h4, h5, h6⟩
    · obtain ⟨x, hx⟩ := R.push_at h3 h4
      have := R.mono (j := j + 1) (j' := s') (by omega) hl
      rw [hx, Hp.n_push] at this
      exact .inl (by rw [h6]; omega)
structure WI (D : Nat → Prop) (a : Act) (w : World) (s : Nat) (e : Env) : Prop where
  dc : DC R.ops D
  sle : s ≤ R.ord.length
  pre : ∀ j i : Nat, j < s → R.ord[j]? = some i → 2 ≤ kindOf R.gl i → D i
  nohv : ∀ j i : Nat, s ≤ j → R.ord[j]? = some i → kindOf R.gl i = 3 → ¬ D i
  hvp : s = 0 ∨ ∃ i : Nat, R.ord[s - 1]? = some i ∧ kindOf R.gl i = 3
  cum : Step R.e0 (R.hp 0) R.w0 e (R.hp s) w
  vals : ∀ (j i : Nat) o d, R.ord[j]? = some i → D i → R.ops[i]? = some o → o.dst = some d → (R.val j).rf (R.G D s (R.hp (j + 1)).n.n) = true ∧ Isu e (R.val j) (a.tmps.getD d undef)
  oth : ∀ p : Nat, (∀ (i : Nat) o, R.ops[i]? = some o → D i → o.dst ≠ some p) → a.tmps.getD p undef = R.a0.tmps.getD p undef
  tsz : a.tmps.size = M
  df : DfR P e (R.hp s).n.n (R.hp s).df a.defers
  pend : ∀ j i : Nat, s ≤ j → R.ord[j]? = some i → kindOf R.gl i = 2 → D i → ∃ x, R.hp (j + 1) = (R.hp j).push x ∧ x ≠ .dd ∧ x.rf (R.G D s (R.hp j).n.n) = true ∧ (i ≠ R.im → OkB e w (R.hp j).n x) ∧ (e.σ (R.hp j).n).1 < w.heap.size ∧ R.w0.heap.size ≤ (e.σ (R.hp j).n).1 ∧
    ∀ q : Pth, q.n < (R.hp s).n.n → (R.hp s).at q ≠ .dd → (e.σ q).1 ≠ (e.σ (R.hp j).n).1
  pdis : ∀ j i j' i' : Nat, s ≤ j → s ≤ j' → R.ord[j]? = some i → R.ord[j']? = some i' → kindOf R.gl i = 2 → kindOf R.gl i' = 2 → D i → D i' → j ≠ j' → (e.σ (R.hp j).n).1 ≠ (e.σ (R.hp j').n).1
structure KP' (D : Nat → Prop) (i0 s s' : Nat) (e e' : Env) (w w' : World) : Prop where
  new : ∀ j : Nat, R.ord[j]? = some i0 → kindOf R.gl i0 = 2 → ∀ x, R.hp (j + 1) = (R.hp j).push x → OkB e' w' (R.hp j).n x
  le : s ≤ s'
  pend : ∀ j i : Nat, s' ≤ j → R.ord[j]? = some i → kindOf R.gl i = 2 → D i → e'.σ (R.hp j).n = e.σ (R.hp j).n ∧ w'.heap[(e.σ (R.hp j).n).1]? = w.heap[(e.σ (R.hp j).n).1]?
  agr : ∀ b, AgrF (R.G D s b) e e'
variable {R} {D : Nat → Prop} {a : Act} {w : World} {s : Nat} {e : Env}
theorem KP'.refl {i0 : Nat} (h : kindOf R.gl i0 ≠ 2) : KP' R D i0 s s e e w w := ⟨fun _ _ k => absurd k h, Nat.le_refl _, fun _ _ _ _ _ _ => ⟨rfl, rfl⟩, fun _ => ⟨fun _ _ => rfl, fun _ _ => rfl, rfl, rfl⟩⟩
theorem WI.opd (W : WI R D a w s e) {j i : Nat} {o : Oper} {g : GJ} {x : XJ} {st : List Nat} (hj : R.ord[j]? = some i) (H : PosOk R.ops R.gl (R.ord.take j) i o g x st) (hi : ¬ D i) (hpr : ∀ p ∈ predsOf R.ops i, D p)
    {j2 : Nat} (hj2 : j2 = j ∨ (g.kind = 1 ∧ j ≤ j2 ∧ j2 ≤ R.ord.length)) {p : Nat} (hp : p ∈ o.looksAt R.ops) : (gt vu (Pth.of p) (R.tm j2)).rf (R.G D s (R.hp j).n.n) = true ∧ Isu e (gt vu (Pth.of p) (R.tm j2)) (a.tmps.getD p undef) := by
  have hjl : j < R.ord.length := (List.getElem?_eq_some_iff.1 hj).1
  have hle : j ≤ j2 ∧ j2 ≤ R.ord.length := by rcases hj2 with rfl | ⟨_, h1, h2⟩; exact ⟨Nat.le_refl _, by omega⟩; exact ⟨h1, h2⟩
  have base : gt vu (Pth.of p) (R.tm j2) = gt vu (Pth.of p) (R.tm 0) → a.tmps.getD p undef = R.a0.tmps.getD p undef → (gt vu (Pth.of p) (R.tm j2)).rf (R.G D s (R.hp j).n.n) = true ∧ Isu e (gt vu (Pth.of p) (R.tm j2)) (a.tmps.getD p undef) := fun h1 h2 => by
    rw [h1, h2]
    have hrf := Tr.rf_gt (p := Pth.of p) R.ts.rf
    have htr := R.ts.tr (Pth.of p)
    rw [Pth.of_n] at htr
    refine ⟨V.rf_mono (fun q hq => ?_) hrf, htr.imp id (W.cum.agr.is hrf)⟩
    rw [Reg.G_iff]
    have := Pth.ok_iff.1 hq
    have := R.mono (Nat.zero_le s) W.sle
    exact .inl (by omega)
  by_cases hex : ∃ (k : Nat) (o' : Oper), R.ops[k]? = some o' ∧ o'.dst = some p
  · obtain ⟨k, o', k1, k2⟩ := hex
    rcases H.rd k o' p k1 k2 hp with ⟨c1, c2⟩ | ⟨c1, c2⟩
    · have hDk : D k := H.anc D W.dc hpr k c1
      obtain ⟨jk, c3, c4⟩ := mem_take_iff.1 c2
      obtain ⟨v1, v2⟩ := W.vals jk k o' p c4 hDk k1 k2
      rw [R.tm_dst c4 k1 k2 (j := j2) (by omega) hle.2]
      exact ⟨V.rf_mono (fun q hq => R.G_mono (fun _ h => h) (R.mono (by omega) (by omega)) hq) v1, v2⟩
    · have hjj : j2 = j := by rcases hj2 with h | ⟨h, _⟩; exact h; exact absurd h c1
      refine base (R.tm_oth hle.2 fun j' i' o2 h1 h2 h3 h4 => ?_) (W.oth p fun i' o2 h1 h2 h3 => ?_)
      · rw [Pth.of_n] at h4
        by_cases hik : i' = k
        · rw [hik] at h2
          exact c2 (mem_take_iff.2 ⟨j', by omega, h2⟩)
        · obtain ⟨o3, g3, x3, s3, _, h5⟩ := R.pos j' i' h2
          have ho3 := h5.ho
          rw [h3] at ho3; cases ho3
          exact h5.dist k o' p k1 k2 (Ne.symm hik) h4
      · have hik : i' = k := by
          obtain ⟨j', hj'⟩ := R.all i' (Array.getElem?_eq_some_iff.1 h1).1 (R.noins h1 h3)
          obtain ⟨o3, g3, x3, s3, _, h5⟩ := R.pos j' i' hj'
          have ho3 := h5.ho
          rw [h1] at ho3; cases ho3
          by_cases hik : i' = k
          · exact hik
          · exact absurd h3 (h5.dist k o' p k1 k2 (Ne.symm hik))
        subst hik
        obtain ⟨jk, hjk⟩ := R.all i' (Array.getElem?_eq_some_iff.1 h1).1 (R.noins h1 h3)
        have hne : i' ≠ i := fun c => hi (c ▸ h2)
        have hlt : j < jk := by
          rcases Nat.lt_trichotomy j jk with c | c | c
          · exact c
          · rw [c] at hj; exact absurd (Option.some.inj (hjk.symm.trans hj)) hne
          · exact absurd (mem_take_iff.2 ⟨jk, c, hjk⟩) c2
        obtain ⟨o3, g3, x3, s3, _, h5⟩ := R.pos jk i' hjk
        have ho3 := h5.ho
        rw [h1] at ho3; cases ho3
        rcases h5.wr p h3 i (mem_take_iff.2 ⟨j, hlt, hj⟩) with h6 | h6
        · exact hi (h5.anc D W.dc (W.dc i' h2) i h6)
        · exact h6 o H.ho hp
  · refine base (R.tm_oth hle.2 fun j' i' o2 h1 h2 h3 h4 => hex ⟨i', o2, h3, by rw [Pth.of_n] at h4; exact h4⟩) (W.oth p fun i' o2 h1 h2 h3 => hex ⟨i', o2, h1, h3⟩)
theorem WI.ot (W : WI R D a w s e) {j i : Nat} {o : Oper} {g : GJ} {x : XJ} {st : List Nat} (hj : R.ord[j]? = some i) (H : PosOk R.ops R.gl (R.ord.take j) i o g x st) (hi : ¬ D i) (hpr : ∀ p ∈ predsOf R.ops i, D p)
    {j2 : Nat} (hj2 : j2 = j ∨ (g.kind = 1 ∧ j ≤ j2 ∧ j2 ≤ R.ord.length)) {f : Pth → Bool} (hf : ∀ q, R.G D s (R.hp j).n.n q = true → f q = true) : OT Y e (R.tm j2) f a (· ∈ o.op.operands) := by
  refine ⟨fun p hp => ?_, fun g p hg => ?_⟩
  · obtain ⟨h1, h2⟩ := W.opd hj H hi hpr hj2 (p := p) (List.mem_append_left _ (List.mem_filterMap.2 ⟨.tmp p, by simpa using hp, rfl⟩))
    exact ⟨V.rf_mono hf h1, h2⟩
  · obtain ⟨h1, h2⟩ := R.gly g p hg
    have h3 := Pth.ok_iff.1 h1
    refine ⟨hf p ?_, by rw [W.cum.agr.σ p h3]; exact h2⟩
    rw [Reg.G_iff]
    have := R.mono (Nat.zero_le s) W.sle
    exact .inl (by omega)
theorem yielded_at {ops : Array Oper} {oj : Oper} {j d : Nat} {t : T} (ht : Isu e (gt vu (Pth.of d) t) (a.tmps.getD d undef)) (hj : ops[j]? = some oj) (hd : oj.dst = some d) : (∀ q, gt vu (Pth.of d) t = .s (.b q) → yielded ops a.tmps j = some q) ∧ (gt vu (Pth.of d) t = vu → yielded ops a.tmps j = none) := by
  have hy : yielded ops a.tmps j = match a.tmps[d]? with | some (.bool b) => some b | _ => none := by
    simp only [yielded, hj, Option.bind_some, hd]
    rfl
  rw [Array.getD_eq_getD_getElem?] at ht
  refine ⟨fun q hq => ?_, fun hq => ?_⟩
  · rw [hq] at ht
    rcases ht with ht | ht
    · cases ht
    · have ht := ht.eq (by rfl)
      rw [hy]
      cases hx : a.tmps[d]? with
      | none => rw [hx] at ht; cases ht
      | some x =>
        rw [hx] at ht
        simp only [Option.getD_some] at ht
        rw [ht]; rfl
  · rw [hq] at ht
    rcases ht with ht | ht
    · cases ht
    · have ht := ht.eq (by rfl)
      rw [hy]
      cases hx : a.tmps[d]? with
      | none => rfl
      | some x =>
        rw [hx] at ht
        simp only [Option.getD_some] at ht
        rw [ht]; rfl
theorem WI.wanted (W : WI R D a w s e) {j i : Nat} {o : Oper} {g : GJ} {x : XJ} {st : List Nat} (hj : R.ord[j]? = some i) (H : PosOk R.ops R.gl (R.ord.take j) i o g x st) (hi : ¬ D i) (hpr : ∀ p ∈ predsOf R.ops i, D p) (hg : compG Y P N R.ops o = some g)
    {j2 : Nat} (hj2 : j2 = j ∨ (g.kind = 1 ∧ j ≤ j2 ∧ j2 ≤ R.ord.length)) : (g.on (R.tm j2) → Region.wanted o (yielded R.ops a.tmps) = true) ∧ (g.off (R.tm j2) → Region.wanted o (yielded R.ops a.tmps) = false) := by
  obtain ⟨_, _, _, h4⟩ := compG_op hg
  rcases h4 with ⟨h1, h2⟩ | ⟨jg, want, oj, d, h1, h2, h3, h4⟩
  · refine ⟨fun _ => by simp [Region.wanted, h1], fun h => ?_⟩
    unfold GJ.off at h; rw [h2] at h; exact h.elim
  · have hd : d ∈ o.looksAt R.ops := by
      unfold Oper.looksAt
      refine List.mem_append_right _ ?_
      rw [h1]
      simp [h2, h3]
    obtain ⟨y1, y2⟩ := yielded_at (W.opd hj H hi hpr hj2 hd).2 h2 h3
    have hw : Region.wanted o (yielded R.ops a.tmps) = (yielded R.ops a.tmps jg == some want) := by simp [Region.wanted, h1]
    refine ⟨fun h => ?_, fun h => ?_⟩
    · unfold GJ.on at h; rw [h4] at h
      rw [hw, y1 want h]; simp
    · unfold GJ.off at h; rw [h4] at h
      rcases h with h | h
      · rw [hw, y2 h]; rfl
      · rw [hw, y1 _ h]; cases want <;> rfl
end
theorem Step.join {e0 e : Env} {h0 h : Hp} {w0 w : World} {x : B} (S : Step e0 h0 w0 e h w) (hx : OkB e w h.n x) (hv : x.ok h.n.n = true) (hne : ∀ q : Pth, q.n < h.n.n → h.at q ≠ .dd → (e.σ q).1 ≠ (e.σ h.n).1) (hf : w0.heap.size ≤ (e.σ h.n).1) : Step e0 h0 w0 e (h.push x) w := by
  have he : e.lay h.n (e.σ h.n) (e.δ h.n) = e := by
    unfold Env.lay
    have h1 : (fun q => if q = h.n then e.σ h.n else e.σ q) = e.σ := by funext q; split <;> simp_all
    have h2 : (fun q => if q = h.n then e.δ h.n else e.δ q) = e.δ := by funext q; split <;> simp_all
    rw [h1, h2]
  have hR := S.rel.new (w' := w) (e.σ h.n) (e.δ h.n) (by rw [he]; exact hx) hv (fun _ _ _ => rfl) hne (Nat.le_refl _)
  rw [he] at hR
  have hn := Hp.n_push h x
  refine ⟨hR, S.fz, S.ch, S.agr, by rw [hn]; have := S.le; omega, S.os, S.tape, S.output, S.size, S.keep, fun q hq hqw => ?_, fun q hq hqw => ?_⟩
  · rw [Hp.at_push] at hqw
    rcases push_cs hq with c | ⟨c, c2⟩
    · rw [c]; exact .inr hf
    · rw [if_neg c2] at hqw; exact S.mine q c hqw
  · rw [Hp.at_push] at hqw
    rcases push_cs hq with c | ⟨c, c2⟩
    · rw [c]; exact .inr hf
    · rw [if_neg c2] at hqw; exact S.nd q c hqw
section
variable {Y : Lay} {P : Program} {N M : Nat} {κ : KP} {cal : Cal} {R : Reg Y P N M κ cal} {D : Nat → Prop} {a : Act} {w : World} {s : Nat} {e : Env}
def addD (D : Nat → Prop) (i : Nat) : Nat → Prop := fun k => k = i ∨ D k
theorem addD_dc {ops : Array Oper} (h : DC ops D) {i : Nat} (hp : ∀ p ∈ predsOf ops i, D p) : DC ops (addD D i) := by
  intro k hk p hpk
  rcases hk with rfl | hk
  · exact .inr (hp p hpk)
  · exact .inr (h k hk p hpk)
theorem Act.put_at {a : Act} {d : Nat} {x : Value} (hd : d < a.tmps.size) : (a.put (some d) x).tmps.getD d undef = x := by simp [Act.put, Array.getD, hd]
theorem Act.put_ne {a : Act} {d : Option Nat} {x : Value} {p : Nat} (h : d ≠ some p) : (a.put d x).tmps.getD p undef = a.tmps.getD p undef := by
  cases d with
  | none => rfl
  | some d =>
    have hne : d ≠ p := fun c => h (by rw [c])
    simp [Act.put, Array.getD_eq_getD_getElem?, Array.getElem?_setIfInBounds, hne]
theorem WI.vals_put (W : WI R D a w s e) {j i : Nat} {o : Oper} {g : GJ} {st : List Nat} {y : XJ} (hj : R.ord[j]? = some i) (H : PosOk R.ops R.gl (R.ord.take j) i o g y st) (hg : compG Y P N R.ops o = some g) {x : Value} {s' : Nat} {e' : Env} {G' : Nat → Pth → Bool}
    (hold : ∀ (j2 : Nat) (v : V) (z : Value), v.rf (R.G D s (R.hp (j2 + 1)).n.n) = true → Isu e v z → v.rf (G' j2) = true ∧ Isu e' v z) (hnew : ∀ d, o.dst = some d → (R.val j).rf (G' j) = true ∧ Isu e' (R.val j) x) :
    ∀ (j2 i2 : Nat) o2 d2, R.ord[j2]? = some i2 → addD D i i2 → R.ops[i2]? = some o2 → o2.dst = some d2 → (R.val j2).rf (G' j2) = true ∧ Isu e' (R.val j2) ((a.put o.dst x).tmps.getD d2 undef) := by
  intro j2 i2 o2 d2 h1 h2 h3 h4
  obtain ⟨_, _, hb, _⟩ := compG_op hg
  by_cases hi : i2 = i
  · subst hi
    have := R.uniq h1 hj
    subst this
    have ho := H.ho
    rw [h3] at ho
    cases ho
    rw [h4, Act.put_at (by rw [W.tsz]; exact Nat.lt_of_lt_of_le (hb d2 h4) R.hNM)]
    exact hnew d2 h4
  · have hD : D i2 := h2.resolve_left hi
    rw [Act.put_ne (H.dist i2 o2 d2 h3 h4 hi)]
    obtain ⟨k1, k2⟩ := W.vals j2 i2 o2 d2 h1 hD h3 h4
    exact hold j2 _ _ k1 k2
theorem WI.oth_put (W : WI R D a w s e) {i : Nat} {o : Oper} (ho : R.ops[i]? = some o) {x : Value} : ∀ p : Nat, (∀ (k : Nat) o2, R.ops[k]? = some o2 → addD D i k → o2.dst ≠ some p) → (a.put o.dst x).tmps.getD p undef = R.a0.tmps.getD p undef := fun p h => by
  rw [Act.put_ne (h i o ho (.inl rfl))]
  exact W.oth p fun k o2 h1 h2 => h k o2 h1 (.inr h2)
theorem WI.light (W : WI R D a w s e) {j i : Nat} {o : Oper} {g : GJ} {st : List Nat} {y : XJ} (hj : R.ord[j]? = some i) (H : PosOk R.ops R.gl (R.ord.take j) i o g y st) (hg : compG Y P N R.ops o = some g) (hpr : ∀ p ∈ predsOf R.ops i, D p) (hk : kindOf R.gl i ≤ 1) {x : Value}
    (hnew : ∀ d, o.dst = some d → (R.val j).rf (R.G D s (R.hp (j + 1)).n.n) = true ∧ Isu e (R.val j) x) : WI R (addD D i) (a.put o.dst x) w s e := by
  have hne : ∀ {k : Nat}, kindOf R.gl k = 2 ∨ kindOf R.gl k = 3 → k ≠ i := fun h c => by rw [c] at h; omega
  have hG : ∀ b q, R.G D s b q = true → R.G (addD D i) s b q = true := fun b q => R.G_mono (fun _ h => .inr h) (Nat.le_refl _)
  refine ⟨addD_dc W.dc hpr, W.sle, fun j2 i2 h1 h2 h3 => .inr (W.pre j2 i2 h1 h2 h3), fun j2 i2 h1 h2 h3 h4 => ?_, W.hvp, W.cum, W.vals_put (s' := s) hj H hg (G' := fun j2 => R.G (addD D i) s (R.hp (j2 + 1)).n.n) (fun j2 v z h1 h2 => ⟨V.rf_mono (hG _) h1, h2⟩) (fun d hd => ⟨V.rf_mono (hG _) (hnew d hd).1, (hnew d hd).2⟩), W.oth_put H.ho, by rw [put_size]; exact W.tsz, by rw [put_defers]; exact W.df, fun j2 i2 h1 h2 h3 h4 => ?_, fun j1 i1 j2 i2 h1 h2 h3 h4 h5 h6 h7 h8 h9 => ?_⟩
  · exact W.nohv j2 i2 h1 h2 h3 (h4.resolve_left (hne (.inr h3)))
  · obtain ⟨x, k1, k2, k3, k4, kl, k5, k6⟩ := W.pend j2 i2 h1 h2 h3 (h4.resolve_left (hne (.inl h3)))
    exact ⟨x, k1, k2, B.rf_mono (hG _) k3, k4, kl, k5, k6⟩
  · exact W.pdis j1 i1 j2 i2 h1 h2 h3 h4 h5 h6 (h7.resolve_left (hne (.inl h5))) (h8.resolve_left (hne (.inl h6))) h9
theorem WI.make (W : WI R D a w s e) {j i : Nat} {o : Oper} {g : GJ} {st : List Nat} {y : XJ} (hj : R.ord[j]? = some i) (H : PosOk R.ops R.gl (R.ord.take j) i o g y st) (hg : compG Y P N R.ops o = some g) (hi : ¬ D i) (hpr : ∀ p ∈ predsOf R.ops i, D p) (hk : kindOf R.gl i = 2) {x : B} {w' : World} {z : Value} {d : Nat}
    (hpush : R.hp (j + 1) = (R.hp j).push x) (hxd : x ≠ .dd) (hxf : x.rf (R.G D s (R.hp j).n.n) = true) (hM : More w w') (hval : ∀ d2, o.dst = some d2 → (∀ f : Pth → Bool, f (R.hp j).n = true → (R.val j).rf f = true) ∧ Is (e.lay (R.hp j).n (w.heap.size, 0) d) (R.val j) z)
    (hok : OkB (e.lay (R.hp j).n (w.heap.size, 0) d) w' (R.hp j).n x) : ∃ e', WI R (addD D i) (a.put o.dst z) w' s e' ∧ KP' R D i s s e e' w w' := by
  have hjl : j < R.ord.length := (List.getElem?_eq_some_iff.1 hj).1
  have hsj : s ≤ j := by
    rcases Nat.lt_or_ge j s with c | c
    · exact absurd (W.pre j i c hj (by omega)) hi
    · exact c
  obtain ⟨p, hp⟩ : ∃ p, p = (R.hp j).n := ⟨_, rfl⟩
  obtain ⟨e', he'⟩ : ∃ e', e' = e.lay p (w.heap.size, 0) d := ⟨_, rfl⟩
  rw [← hp, ← he'] at hok hval
  have hps : (R.hp s).n.n ≤ p.n := by rw [hp]; exact R.mono hsj (by omega)
  have hpj : ∀ {j2 i2 : Nat}, R.ord[j2]? = some i2 → kindOf R.gl i2 = 2 → D i2 → (R.hp j2).n ≠ p := fun {j2 i2} h1 h2 h3 c => by
    have hne : j2 ≠ j := fun c => by rw [c] at h1; rw [hj] at h1; cases h1; exact hi h3
    have hl2 : j2 < R.ord.length := (List.getElem?_eq_some_iff.1 h1).1
    have c : (R.hp j2).n.n = (R.hp j).n.n := by rw [c, hp]
    rcases Nat.lt_trichotomy j2 j with k | k | k
    · obtain ⟨x2, hx2⟩ := R.push_at h1 h2
      have := R.mono (j := j2 + 1) (j' := j) (by omega) (by omega)
      rw [hx2, Hp.n_push] at this; omega
    · exact hne k
    · have := R.mono (j := j + 1) (j' := j2) (by omega) (by omega)
      rw [hpush, Hp.n_push] at this; omega
  have hGp : ∀ b, R.G D s b p = false := fun b => by
    cases hb : R.G D s b p with
    | false => rfl
    | true =>
      rcases (R.G_iff).1 hb with h | ⟨_, j2, i2, h2, h3, h4, h5, h6⟩
      · omega
      · exact absurd h6.symm (hpj h3 h4 h5)
  have AF : ∀ b, AgrF (R.G D s b) e e' := fun b => by rw [he']; exact lay_agrF (hGp b) _ _
  have A : Agr (R.hp s).n.n e e' := by
    have hne : ∀ q : Pth, q.n < (R.hp s).n.n → q ≠ p := fun q hq c => by rw [c] at hq; omega
    rw [he']
    exact ⟨fun q hq => if_neg (hne q hq), fun q hq => if_neg (hne q hq), rfl, rfl, rfl⟩
  have hσp : e'.σ p = (w.heap.size, 0) := by rw [he']; exact lay_σ ..
  have hσo : ∀ q, q ≠ p → e'.σ q = e.σ q ∧ e'.δ q = e.δ q := fun q hq => by rw [he']; exact ⟨if_neg hq, if_neg hq⟩
  have hG : ∀ b q, R.G D s b q = true → R.G (addD D i) s b q = true := fun b q => R.G_mono (fun _ h => .inr h) (Nat.le_refl _)
  have hcs : ∀ {k : Nat}, k ≠ i → addD D i k → D k := fun h1 h2 => h2.resolve_left h1
  have hlt : ∀ {j2 i2 : Nat}, s ≤ j2 → R.ord[j2]? = some i2 → kindOf R.gl i2 = 2 → D i2 → (e.σ (R.hp j2).n).1 < w.heap.size := fun h1 h2 h3 h4 => by
    obtain ⟨x2, _, _, _, _, kl, _⟩ := W.pend _ _ h1 h2 h3 h4
    exact kl
  have hcum : Step R.e0 (R.hp 0) R.w0 e' (R.hp s) w' := by
    refine W.cum.trans ⟨⟨fun r hr => (W.cum.rel.ok r hr).move A hr (W.cum.rel.val r hr) (by have := hM.size; omega) fun hd => hM.old _ ((W.cum.rel.ok r hr).lt hd), fun r r' hr hr' => by rw [A.σ r hr, A.σ r' hr']; exact W.cum.rel.sep r r' hr hr', W.cum.rel.val, W.cum.rel.esc⟩, rfl, rfl, A, Nat.le_refl _, hM.os, hM.tape, hM.output, by have := hM.size; omega, fun b hb _ => hM.old b hb, fun r hr hw => .inl ⟨r, hr, hw, by rw [A.σ r hr]⟩, fun r hr hw => .inl ⟨r, hr, hw, by rw [A.σ r hr]⟩⟩
  refine ⟨e', ⟨addD_dc W.dc hpr, W.sle, fun j2 i2 h1 h2 h3 => .inr (W.pre j2 i2 h1 h2 h3), fun j2 i2 h1 h2 h3 h4 => ?_, W.hvp, hcum, W.vals_put (s' := s) hj H hg (G' := fun j2 => R.G (addD D i) s (R.hp (j2 + 1)).n.n) (fun j2 v z h1 h2 => ⟨V.rf_mono (hG _) h1, (AF _).isu h1 h2⟩) (fun d2 hd2 => ⟨(hval d2 hd2).1 _ ?_, .inr (hval d2 hd2).2⟩), W.oth_put H.ho, by rw [put_size]; exact W.tsz, by rw [put_defers]; exact W.df.agr A (Nat.le_refl _), fun j2 i2 h1 h2 h3 h4 => ?_, fun j1 i1 j2 i2 h1 h2 h3 h4 h5 h6 h7 h8 h9 => ?_⟩, ⟨fun j2 h1 _ x2 h3 => by
    have := R.uniq h1 hj
    subst this
    have h4 : (R.hp j2).push x2 = (R.hp j2).push x := h3.symm.trans hpush
    have h5 := congrArg (fun z : Hp => z.at (R.hp j2).n) h4
    simp only [Hp.at_push, if_true] at h5
    rw [h5, ← hp]; exact hok, Nat.le_refl _, fun j2 i2 h1 h2 h3 h4 => ⟨(hσo _ (hpj h2 h3 h4)).1, hM.old _ (hlt h1 h2 h3 h4)⟩, AF⟩⟩
  · exact W.nohv j2 i2 h1 h2 h3 (hcs (fun c => by rw [c, hk] at h3; cases h3) h4)
  · rw [R.G_iff]
    exact .inr ⟨by rw [hpush, Hp.n_push, hp]; omega, j, i, hsj, hj, hk, .inl rfl, hp⟩
  · by_cases hi2 : i2 = i
    · subst hi2
      have := R.uniq h2 hj
      subst this
      rw [← hp]
      refine ⟨x, hpush, hxd, B.rf_mono (hG _) (by rw [hp]; exact hxf), fun _ => hok, hok.lt hxd, by rw [hσp]; exact W.cum.size, fun q hq hqd => ?_⟩
      rw [A.σ q hq, hσp]
      have := (W.cum.rel.ok q hq).lt hqd
      show (e.σ q).1 ≠ w.heap.size
      omega
    · have hD := hcs hi2 h4
      obtain ⟨x2, k1, k2, k3, k4, kl, k5, k6⟩ := W.pend j2 i2 h1 h2 h3 hD
      obtain ⟨q1, q2⟩ := hσo _ (hpj h2 h3 hD)
      refine ⟨x2, k1, k2, B.rf_mono (hG _) k3, fun him => ?_, by rw [q1]; have := hM.size; omega, by rw [q1]; exact k5, fun q hq hqd => by rw [q1, A.σ q hq]; exact k6 q hq hqd⟩
      exact (k4 him).moveF (AF _) (by rw [he']; rfl) q1 q2 k3 (by have := hM.size; omega) fun hd => hM.old _ kl
  · by_cases c1 : i1 = i
    · have : j1 = j := R.uniq (by rw [← c1]; exact h3) hj
      have c2 : i2 ≠ i := fun c => h9 (this.trans (R.uniq (by rw [← c]; exact h4) hj).symm)
      have hD2 := hcs c2 h8
      rw [this, ← hp, hσp, (hσo _ (hpj h4 h6 hD2)).1]
      have := hlt h2 h4 h6 hD2
      show w.heap.size ≠ _
      omega
    · have hD1 := hcs c1 h7
      by_cases c2 : i2 = i
      · have : j2 = j := R.uniq (by rw [← c2]; exact h4) hj
        rw [this, ← hp, hσp, (hσo _ (hpj h3 h5 hD1)).1]
        have := hlt h1 h3 h5 hD1
        show _ ≠ w.heap.size
        omega
      · have hD2 := hcs c2 h8
        rw [(hσo _ (hpj h3 h5 hD1)).1, (hσo _ (hpj h4 h6 hD2)).1]
        exact W.pdis j1 i1 j2 i2 h1 h2 h3 h4 h5 h6 hD1 hD2 h9
theorem WI.catch (W : WI R D a w s e) {j : Nat} (hsj : s ≤ j) (hl : j ≤ R.ord.length) (h3 : ∀ j' i : Nat, s ≤ j' → j' < j → R.ord[j']? = some i → kindOf R.gl i ≠ 3) (h2 : ∀ j' i : Nat, s ≤ j' → j' < j → R.ord[j']? = some i → kindOf R.gl i = 2 → D i) (h4 : ∀ j' i : Nat, s ≤ j' → j' < j → R.ord[j']? = some i → i ≠ R.im) :
    Step R.e0 (R.hp 0) R.w0 e (R.hp j) w ∧ DfR P e (R.hp j).n.n (R.hp j).df a.defers ∧
    ∀ j' i : Nat, j ≤ j' → R.ord[j']? = some i → kindOf R.gl i = 2 → D i → ∀ q : Pth, q.n < (R.hp j).n.n → (R.hp j).at q ≠ .dd → (e.σ q).1 ≠ (e.σ (R.hp j').n).1 := by
  induction j with
  | zero =>
    have : s = 0 := by omega
    subst this
    exact ⟨W.cum, W.df, fun j' i c1 c2 c3 c4 => by obtain ⟨x, _, _, _, _, _, _, k6⟩ := W.pend j' i c1 c2 c3 c4; exact k6⟩
  | succ m ih =>
    by_cases hs : s = m + 1
    · subst hs
      exact ⟨W.cum, W.df, fun j' i c1 c2 c3 c4 => by obtain ⟨x, _, _, _, _, _, _, k6⟩ := W.pend j' i c1 c2 c3 c4; exact k6⟩
    · have hm : m < R.ord.length := by omega
      obtain ⟨i1, i2, i3⟩ := ih (by omega) (by omega) (fun j' i c1 c2 => h3 j' i c1 (by omega)) (fun j' i c1 c2 => h2 j' i c1 (by omega)) (fun j' i c1 c2 => h4 j' i c1 (by omega))
      have hom : R.ord[m]? = some R.ord[m] := List.getElem?_eq_getElem hm
      obtain ⟨o, g, x, st, k1, k2, k3, k4, k5⟩ := R.at_ hom
      have hk3 := h3 m _ (by omega) (by omega) hom
      obtain ⟨d1, d2⟩ := R.does (i := R.ord[m]) k5 k2.plain k3
      rw [R.kd k2.hg] at hk3
      have hop : ∀ op : J, op.kind ≤ 3 := fun op => by cases op <;> simp [J.kind]
      have hkle : g.kind ≤ 3 := by
        cases g with
        | g d op => exact hop op
        | c d op j w =>
          show (if op.kind = 2 then 3 else op.kind) ≤ 3
          split
          · omega
          · exact hop op
      by_cases hk : g.kind = 2
      · have hD := h2 m _ (by omega) (by omega) hom (by rw [R.kd k2.hg]; exact hk)
        obtain ⟨y, q1, q2, q3, q4, _, q5, q6⟩ := W.pend m _ (by omega) hom (by rw [R.kd k2.hg]; exact hk) hD
        have hyok : y.ok (R.hp m).n.n = true := B.rf_mono (fun q hq => by
          rw [Pth.ok_iff]
          rcases (R.G_iff).1 hq with h | ⟨h, _⟩
          · have := R.mono (j := s) (j' := m) (by omega) (by omega); omega
          · exact h) q3
        have hne := i3 m _ (Nat.le_refl _) hom (by rw [R.kd k2.hg]; exact hk) hD
        rw [q1]
        refine ⟨i1.join (q4 (h4 m _ (by omega) (by omega) hom)) hyok hne q5, ?_, fun j' i c1 c2 c3 c4 q hq hqd => ?_⟩
        · exact i2.agr (Agr.refl _ _) (by rw [Hp.n_push]; omega)
        · rw [Hp.at_push] at hqd
          rcases push_cs hq with c | ⟨c, c0⟩
          · rw [c]
            exact W.pdis m _ j' i (by omega) (by omega) hom c2 (by rw [R.kd k2.hg]; exact hk) c3 hD c4 (by omega)
          · rw [if_neg c0] at hqd
            exact i3 j' i (by omega) c2 c3 c4 q c hqd
      · rw [d1 (by omega)]
        exact ⟨i1, i2, fun j' i c1 => i3 j' i (by omega)⟩
end
end Go.E
