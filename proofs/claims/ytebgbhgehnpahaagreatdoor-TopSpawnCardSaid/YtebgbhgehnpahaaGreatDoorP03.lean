/- A part of the proof of the claim that the last text of this folder states. -/
import Derived.ChangeKeysEq
import Derived.Laws.StructEq
import Derived.Test.YtebgbhgehnpahaaGreatDoorP02
namespace Go.E
set_option linter.all false
theorem vl_lt {e : Env} {n : Int} (h : n < 18446744073709551616) : vl e n = n := by unfold vl; rw [if_neg (by omega)]
theorem kn_lt {n : Int} (h : n < 18446744073709551616) : kn n = true := by
  cases n with
  | ofNat m =>
    show Nat.blt m unkN = true
    rw [Nat.blt_eq]
    have h : (m : Int) < 18446744073709551616 := h
    unfold unkN; omega
  | negSucc m => rfl
theorem reB_lt {n : Int} (h : reB n = true) : n < 18446744073709551616 := by
  cases n with
  | ofNat m =>
    have h : m < 18446744073709551616 := by have : Nat.blt m 18446744073709551616 = true := h; simpa [Nat.blt_eq] using this
    show (m : Int) < 18446744073709551616
    omega
  | negSucc m => rw [Int.negSucc_eq]; omega
theorem reB_kn {n : Int} (h : reB n = true) : kn n = true := kn_lt (reB_lt h)
theorem ofS_tr {v : Value} {s : S} (h : ofS v = some s) (e : Env) : s.tr e = v ∧ (∀ f, s.rf f = true) ∧ nU s = true := by
  unfold ofS at h
  split at h
  · cases h; exact ⟨rfl, fun _ => rfl, rfl⟩
  · rename_i k n
    split at h
    · rename_i hk
      cases h
      exact ⟨by simp only [S.tr, vl_lt hk], fun _ => kn_lt hk, kn_lt hk⟩
    · cases h
  · cases h; exact ⟨rfl, fun _ => rfl, rfl⟩
  · cases h; exact ⟨rfl, fun _ => rfl, rfl⟩
  · cases h; exact ⟨rfl, fun _ => rfl, rfl⟩
  · cases h; exact ⟨rfl, fun _ => rfl, rfl⟩
  · rename_i s
    cases h
    refine ⟨?_, fun _ => rfl, rfl⟩
    simp only [S.tr, List.map_map]
    congr 1
    obtain ⟨⟨l⟩⟩ := s
    congr 2
    show List.map (UInt8.ofNat ∘ UInt8.toNat) l = l
    rw [show (UInt8.ofNat ∘ UInt8.toNat) = id from funext fun x => by simp]
    exact List.map_id l
  · cases h
theorem ofSs_tr : ∀ {vs : List Value} {l : List S}, ofSs vs = some l → ∀ e : Env, l.map (S.tr e) = vs ∧ ∀ f, l.all (S.rf f) = true
  | [], l, h, e => by simp only [ofSs, Option.some.injEq] at h; subst h; exact ⟨rfl, fun _ => rfl⟩
  | v :: vs, l, h, e => by
    simp only [ofSs] at h
    cases h1 : ofS v with
    | none => simp [h1] at h
    | some s =>
      cases h2 : ofSs vs with
      | none => simp [h1, h2] at h
      | some l' =>
        simp only [h1, h2, Option.some.injEq] at h
        subst h
        have a := ofS_tr h1 e
        have b := ofSs_tr h2 e
        exact ⟨by simp [a.1, b.1], fun f => by simp [a.2.1 f, b.2 f]⟩
theorem V.rf_s {f : Pth → Bool} {s : S} (h : s.rf f = true) : (V.s s).rf f = true := by
  cases s <;> first | rfl | exact h
theorem V.rf_s' {f : Pth → Bool} {s : S} (h : (V.s s).rf f = true) (hn : nU s = true) : s.rf f = true := by
  cases s <;> first | exact hn | exact h
theorem ofV_tr {v : Value} {x : V} (h : ofV v = some x) (e : Env) : x.tr e = v ∧ ∀ f, x.rf f = true := by
  have hs : (ofS v).map V.s = some x → x.tr e = v ∧ ∀ f, x.rf f = true := fun h => by
    cases h1 : ofS v with
    | none => simp [h1] at h
    | some s =>
      simp only [h1, Option.map_some, Option.some.injEq] at h
      subst h
      have a := ofS_tr h1 e
      exact ⟨a.1, fun f => V.rf_s (a.2.1 f)⟩
  unfold ofV at h
  split at h
  · rename_i cs
    cases h1 : ofSs cs.toList with
    | none => simp [h1] at h
    | some l =>
      simp only [h1, Option.map_some, Option.some.injEq] at h
      subst h
      have a := ofSs_tr h1 e
      exact ⟨by simp only [V.tr, trs, a.1], a.2⟩
  · exact hs h
def Gl (Y : Lay) (e : Env) (f : Pth → Bool) : Prop := ∀ g p, Y.g = some (g, p) → f p = true ∧ e.σ p = (g, 0)
def Isu (e : Env) (v : V) (x : Value) : Prop := v = .u ∨ Is e v x
structure OT (Y : Lay) (e : Env) (t : T) (f : Pth → Bool) (a : Act) (Z : Operand → Prop) : Prop where
  tm : ∀ i : Nat, Z (.tmp i) → (gt vu (Pth.of i) t).rf f = true ∧ Isu e (gt vu (Pth.of i) t) (a.eval (.tmp i))
  gl : Gl Y e f
theorem Is.mk {e : Env} (v : V) : Is e v (v.tr e) := .inl rfl
noncomputable def V.nU : V → Bool
  | .s x => E.nU x
  | _ => true
theorem Is.eq {e : Env} {v : V} {x : Value} (h : Is e v x) (hn : v.nU = true) : x = v.tr e := by
  rcases h with h | ⟨h, _⟩ | ⟨h, _⟩
  · exact h
  · subst h; exact absurd hn (by simp only [V.nU, E.nU]; decide)
  · subst h; exact absurd hn (by simp only [V.nU, E.nU]; decide)
section
variable {Y : Lay} {e : Env} {t : T} {f : Pth → Bool} {a : Act} {Z : Operand → Prop}
theorem ev_tm (t : T) (i : Nat) : ev t (.t (Pth.of i)) = gt vu (Pth.of i) t := gtV_eq _ _
theorem ev_is (hT : OT Y e t f a Z) {x : Operand} {y : O} (hS : Z x) (hx : compX Y x = some y) : (ev t y).rf f = true ∧ Isu e (ev t y) (a.eval x) := by
  cases x with
  | tmp i =>
    simp only [compX, Option.some.injEq] at hx
    subst hx
    rw [ev_tm]
    exact hT.tm i hS
  | const v =>
    simp only [compX] at hx
    cases h1 : ofV v with
    | none => simp [h1] at hx
    | some w =>
      simp only [h1, Option.map_some, Option.some.injEq] at hx
      subst hx
      have q := ofV_tr h1 e
      exact ⟨q.2 f, .inr (.inl q.1.symm)⟩
  | global g =>
    simp only [compX] at hx
    split at hx
    · rename_i g' p hg
      split at hx
      · rename_i hgg
        cases hx
        subst hgg
        obtain ⟨h1, h2⟩ := hT.gl g p hg
        refine ⟨h1, .inr (.inl ?_)⟩
        show Value.pointer (some ⟨g, 0, none⟩) = .pointer (some (adr e p 0))
        simp only [adr, h2, Nat.zero_add]
      · cases hx
    · cases hx
  | func g => simp only [compX, Option.some.injEq] at hx; subst hx; exact ⟨rfl, .inr (.inl (by show Value.func (.func g) #[] #[] = .func (.func (Pth.of g).n) #[] #[]; rw [Pth.of_n]))⟩
theorem ev_eq (hT : OT Y e t f a Z) {x : Operand} {y : O} (hS : Z x) (hx : compX Y x = some y) {v : V} (hv : ev t y = v) (hu : v ≠ .u) (hn : v.nU = true) : a.eval x = v.tr e ∧ v.rf f = true := by
  obtain ⟨h1, h2⟩ := ev_is hT hS hx
  rw [hv] at h1 h2
  rcases h2 with h2 | h2
  · exact absurd h2 hu
  · exact ⟨h2.eq hn, h1⟩
theorem ev_i (hT : OT Y e t f a Z) {x : Operand} {y : O} (hS : Z x) (hx : compX Y x = some y) {k : IntKind} {n : Int} (hv : ev t y = .s (.i k n)) (hn : reB n = true) : a.eval x = .int k n := by
  have := (ev_eq hT hS hx hv (by simp) (by exact reB_kn hn)).1
  rw [this]; simp only [V.tr, S.tr, reB_vl e hn]
end
def Pure (Y : Lay) (P : Program) (o : Oper) (op : J) : Prop :=
  ∀ cal t h k r, exJ op cal t h k = some r → ∃ v, (∀ cal h k, exJ op cal t h k = k v h) ∧
    ∀ e f a, OT Y e t f a (· ∈ o.op.operands) → ∃ x, Isu e v x ∧ v.rf f = true ∧ ∀ w, (execOp a.eval o).run P w = .ok (.value x) w
def Looks (Y : Lay) (P : Program) (o : Oper) (op : J) : Prop :=
  ∀ cal t h k r, exJ op cal t h k = some r → ∃ v, (∀ cal k, exJ op cal t h k = k v h) ∧
    ∀ e a w, OT Y e t (Pth.ok h.n.n) a (· ∈ o.op.operands) → Rel e h w → ∃ x, Isu e v x ∧ v.ok h.n.n = true ∧ (execOp a.eval o).run P w = .ok (.value x) w
theorem Pure.looks {Y : Lay} {P : Program} {o : Oper} {op : J} (H : Pure Y P o op) : Looks Y P o op := fun cal t h k r hr => by
  obtain ⟨v, h1, h2⟩ := H cal t h k r hr
  refine ⟨v, fun cal k => h1 cal h k, fun e a w hT _ => ?_⟩
  obtain ⟨x, h3, h4, h5⟩ := h2 e _ a hT
  exact ⟨x, h3, h4, h5 w⟩
theorem onB_some {β : Type} {q : Bool} {x y : Option β} {r : β} (h : onB q x y = some r) : (q = true ∧ x = some r) ∨ (q = false ∧ y = some r) := by
  cases q with
  | true => exact .inl ⟨rfl, h⟩
  | false => exact .inr ⟨rfl, h⟩
theorem onB_t {β : Type} {q : Bool} {x : Option β} {r : β} (h : onB q x none = some r) : q = true ∧ x = some r := by
  rcases onB_some h with h | ⟨_, h⟩
  · exact h
  · cases h
theorem and_t {a b : Bool} (h : and a b = true) : a = true ∧ b = true := by simpa using h
theorem Isu.mk {e : Env} (v : V) : Isu e v (v.tr e) := .inr (.inl rfl)
section
variable {β : Type}
theorem e_asI (k : IntKind) (n : Int) (c : IntKind → Int → Option β) : asI (.s (.i k n)) c = c k n := rfl
theorem e_asB (q : Bool) (c : Bool → Option β) : asB (.s (.b q)) c = c q := rfl
theorem e_asP (r : Pth) (o : Nat) (c : Pth → Nat → Option β) : asP (.s (.p r o)) c = c r o := rfl
theorem e_asS (s : S) (c : S → Option β) : asS (.s s) c = c s := rfl
theorem e_asA (l : List S) (c : List S → Option β) : asA (.agg l) c = c l := rfl
theorem e_t (x y : Option β) : onB true x y = x := rfl
theorem e_f (x y : Option β) : onB false x y = y := rfl
theorem e_o {α : Type} (a : α) (c : α → Option β) : onO (some a) c = c a := rfl
end
theorem nat_lt {a b : Nat} (h : Nat.blt a b = true) : a < b := by simpa [Nat.blt_eq] using h
theorem nat_le {a b : Nat} (h : Nat.ble a b = true) : a ≤ b := by simpa [Nat.ble_eq] using h
theorem nat_eq {a b : Nat} (h : Nat.beq a b = true) : a = b := by simpa using h
theorem kEq_t {a b : IntKind} (h : kEq a b = true) : a = b := by simpa [kEq_iff] using h
section
variable {Y : Lay} {P : Program} {o : Oper}
theorem pure_mv {x : Operand} {y : O} (ho : o.op = .move x ∨ o.op = .assign x) (hx : compX Y x = some y) : Pure Y P o (.mv y) := by
  intro cal t h k r _
  refine ⟨ev t y, fun _ _ _ => rfl, fun e f a hT => ?_⟩
  obtain ⟨h1, h2⟩ := ev_is hT (x := x) (by rcases ho with ho | ho <;> simp [ho, Op.operands]) hx
  exact ⟨_, h2, h1, fun w => by rcases ho with ho | ho <;> simp [execOp, ho]⟩
theorem pure_pick {c x y : Operand} {c' x' y' : O} (ho : o.op = .pick c x y) (hc : compX Y c = some c') (hx : compX Y x = some x') (hy : compX Y y = some y') : Pure Y P o (.pick c' x' y') := by
  intro cal t h k r hr
  obtain ⟨q, hq, _⟩ := asB_some (show asB (ev t c') _ = some r from hr)
  refine ⟨ev t (if q then x' else y'), fun cal h k => ?_, fun e f a hT => ?_⟩
  · show asB (ev t c') _ = _
    rw [hq]; cases q <;> rfl
  obtain ⟨c1, _⟩ := ev_eq hT (x := c) (by simp [ho, Op.operands]) hc hq (by simp) rfl
  obtain ⟨x1, x2⟩ := ev_is hT (x := x) (by simp [ho, Op.operands]) hx
  obtain ⟨y1, y2⟩ := ev_is hT (x := y) (by simp [ho, Op.operands]) hy
  cases q
  · exact ⟨_, y2, y1, fun w => by simp [execOp, ho, c1, V.tr, S.tr, asBool]⟩
  · exact ⟨_, x2, x1, fun w => by simp [execOp, ho, c1, V.tr, S.tr, asBool]⟩
theorem pure_nil {x : Operand} {y : O} (ho : o.op = .nilCheck x) (hx : compX Y x = some y) : Pure Y P o (.nil y) := by
  intro cal t h k r hr
  obtain ⟨s, hs, hr⟩ := asS_some (show asS (ev t y) _ = some r from hr)
  refine ⟨.s s, fun cal h k => ?_, fun e f a hT => ?_⟩
  · show asS (ev t y) _ = _
    rw [hs]; cases s <;> first | rfl | (cases hr; done)
  · cases s <;> first | (cases hr; done) | skip
    all_goals
      obtain ⟨h1, h2⟩ := ev_eq hT (x := x) (by simp [ho, Op.operands]) hx hs (by simp) rfl
      exact ⟨_, .mk _, h2, fun w => by simp [execOp, ho, h1, V.tr, S.tr]⟩
theorem wrap_lt (k : IntKind) (n : Int) : k.wrap n < 18446744073709551616 := by
  cases k <;> simp [IntKind.wrap, IntKind.bits, IntKind.signed] <;> omega
theorem bits_lt (op : BinOp) (k : IntKind) (a b : Int) : bits op k a b < 18446744073709551616 := by
  unfold bits
  cases op <;> first | exact wrap_lt _ _ | (simp; done)
theorem pure_un {u : UnOp} {T : TypeId} {x : Operand} {y : O} (ho : o.op = .unOp u T x) (hx : compX Y x = some y) : Pure Y P o (.un u y) := by
  intro cal t h k r hr
  cases u with
  | neg =>
    obtain ⟨kd, n, hn, hr⟩ := asI_some (show asI (ev t y) _ = some r from hr)
    obtain ⟨hb, hr⟩ := onB_t hr
    refine ⟨.s (.i kd (kd.wrap (Int.sub 0 n))), fun cal h k => ?_, fun e f a hT => ⟨_, .mk _, rfl, fun w => ?_⟩⟩
    · show asI (ev t y) _ = _
      simp only [hn, e_asI, hb, e_t, rI_eq]
    · have h1 := ev_i hT (x := x) (by simp [ho, Op.operands]) hx hn hb
      have e2 : Int.sub 0 n = -n := by show 0 - n = -n; omega
      rw [e2]
      simp [execOp, ho, h1, V.tr, S.tr, Op.unary, Op.intArith, vl_lt (wrap_lt kd _)]
  | xor =>
    obtain ⟨kd, n, hn, hr⟩ := asI_some (show asI (ev t y) _ = some r from hr)
    obtain ⟨hb, hr⟩ := onB_t hr
    refine ⟨.s (.i kd (bits .xor kd (if kd.signed then -1 else kd.max) n)), fun cal h k => ?_, fun e f a hT => ⟨_, .mk _, rfl, fun w => ?_⟩⟩
    · show asI (ev t y) _ = _
      simp only [hn, e_asI, hb, e_t, rI'_eq]
    · have h1 := ev_i hT (x := x) (by simp [ho, Op.operands]) hx hn hb
      simp [execOp, ho, h1, V.tr, S.tr, Op.unary, intBits_xor, vl_lt (bits_lt _ _ _ _)]
  | not =>
    obtain ⟨q, hq, hr⟩ := asB_some (show asB (ev t y) _ = some r from hr)
    refine ⟨.s (.b (!q)), fun cal h k => ?_, fun e f a hT => ⟨_, .mk _, rfl, fun w => ?_⟩⟩
    · show asB (ev t y) _ = _
      simp only [hq, e_asB, rQ_eq]
    · obtain ⟨h1, _⟩ := ev_eq hT (x := x) (by simp [ho, Op.operands]) hx hq (by simp) rfl
      simp [execOp, ho, h1, V.tr, S.tr, Op.unary]
  | plus => cases hr
theorem cvY_ok {kd : IntKind} {n : Int} (h : cvY kd n = true) (e : Env) : kn n = true ∧ kd.wrap (vl e n) = vl e n := by
  cases n with
  | negSucc _ => cases h
  | ofNat m =>
    obtain ⟨h1, h2⟩ := and_t' h
    obtain ⟨r1, r2⟩ := sy_rg e.ρ m
    refine ⟨?_, ?_⟩
    · have := (isY_out h1).2.1
      show Nat.blt m unkN = true
      rw [Nat.blt_eq]; unfold symN at this; unfold unkN; omega
    · rw [vl_Y h1]; exact (lim_lt (lim_mono h2 r2)).2.2
theorem pure_conv {src dst : TypeId} {d : TypeDesc} {kd : IntKind} {x : Operand} {y : O} (ho : o.op = .convert src dst x) (hs : P.underlying src = some d) (hd : P.underlying dst = some (.int kd))
    (hx : compX Y x = some y) : Pure Y P o (.conv kd y) := by
  intro cal t h k r hr
  obtain ⟨k', n, hn, hr⟩ := asI_some (show asI (ev t y) _ = some r from hr)
  rcases onB_or hr with ⟨hb, hr⟩ | ⟨hb, hr⟩
  · refine ⟨.s (.i kd (kd.wrap n)), fun cal h k => ?_, fun e f a hT => ⟨_, .mk _, rfl, fun w => ?_⟩⟩
    · show asI (ev t y) _ = _
      simp only [hn, e_asI, hb, e_t, rI_eq]
    · have h1 := ev_i hT (x := x) (by simp [ho, Op.operands]) hx hn hb
      have hr := run_convert_int w src dst k' n (P := P) (by simp [hs]) (by simp [Program.intKind, hd])
      simp only [Program.intKind, hd] at hr
      simp [execOp, ho, h1, V.tr, S.tr, hr, vl_lt (wrap_lt kd _)]
  · obtain ⟨hc, hr⟩ := onB_t' hr
    refine ⟨.s (.i kd n), fun cal h k => ?_, fun e f a hT => ?_⟩
    · show asI (ev t y) _ = _
      simp only [hn, e_asI, hb, hc, e_t, e_f]
    · obtain ⟨c1, c2⟩ := cvY_ok hc e
      have h1 := (ev_eq hT (x := x) (by simp [ho, Op.operands]) hx hn (by simp) (by exact c1)).1
      refine ⟨_, .mk _, rfl, fun w => ?_⟩
      have hr := run_convert_int w src dst k' (vl e n) (P := P) (by simp [hs]) (by simp [Program.intKind, hd])
      simp only [Program.intKind, hd] at hr
      simp only [V.tr, S.tr] at h1
      simp [execOp, ho, h1, V.tr, S.tr, hr, c2]
theorem nthC_eq : ∀ (l : List C) (n : Nat), nthC l n = l[n]?
  | [], _ => rfl
  | x :: _, 0 => rfl
  | _ :: l, n + 1 => by show nthC l n = _; rw [nthC_eq l n]; rfl
theorem pure_ext {x : Operand} {y : O} {j : Nat} (ho : o.op = .extract x j) (hx : compX Y x = some y) : Pure Y P o (.ext y j) := by
  intro cal t h k r hr
  cases hv : ev t y with
  | tup cs =>
    have hx2 : ∀ cal h k, exJ (.ext y j) cal t h k = onO (nthC cs j) fun c => k c.toV h := fun cal h k => by
      show x_ext y j cal t h k = _
      unfold x_ext
      rw [hv]
    rw [hx2] at hr
    obtain ⟨c, hc, hr⟩ := onO_some hr
    refine ⟨c.toV, fun cal h k => ?_, fun e f a hT => ?_⟩
    · rw [hx2, hc]; rfl
    · obtain ⟨h1, h2⟩ := ev_eq hT (x := x) (by simp [ho, Op.operands]) hx hv (by simp) rfl
      rw [nthC_eq] at hc
      simp only [V.rf, List.all_eq_true] at h2
      have h3 := h2 c (List.mem_of_getElem? hc)
      refine ⟨c.toV.tr e, .mk _, by cases c <;> first | exact V.rf_s h3 | exact h3, fun w => ?_⟩
      have : c.toV.tr e = c.tr e := by cases c <;> rfl
      rw [this]
      simp [execOp, ho, h1, V.tr, Instr.extract, hc]
  | _ =>
    have hr : x_ext y j cal t h k = some r := hr
    unfold x_ext at hr
    rw [hv] at hr; cases hr
theorem adr_add (e : Env) (r : Pth) (o n : Nat) : (adr e r o).add n = adr e r (o + n) := by
  unfold Addr.add adr; split
  · rename_i e; simp [e]
  · simp [Nat.add_assoc]
theorem pure_fa {T : TypeId} {x : Operand} {y : O} {j : Nat} {fs : Array Field} {f : Field} {i : TypeInfo} (ho : o.op = .fieldAddr T x j) (hu : P.underlying T = some (.struct fs)) (hf : fs[j]? = some f)
    (hi : P.info? f.type = some i) (hs : i.size ≠ 0) (hx : compX Y x = some y) : Pure Y P o (.fa y f.offset) := by
  intro cal t h k r hr
  obtain ⟨q, n, hq, hr⟩ := asP_some (show asP (ev t y) _ = some r from hr)
  refine ⟨.s (.p q (n + f.offset)), fun cal h k => ?_, fun e g a hT => ?_⟩
  · show asP (ev t y) _ = _
    simp only [hq, e_asP, fN_eq]; rfl
  obtain ⟨h1, h2⟩ := ev_eq hT (x := x) (by simp [ho, Op.operands]) hx hq (by simp) rfl
  exact ⟨_, .mk _, h2, fun w => by simp [execOp, ho, h1, V.tr, S.tr, Instr.fieldAt, run_underlying hu, hf, Instr.sureAddr, fieldPlace, sizeOf, typeInfo, hi, hs, adr_add]⟩
end
theorem trs_size (e : Env) (xs : List S) : (trs e xs).size = xs.length := by simp [trs]
theorem trs_get (e : Env) (xs : List S) (o : Nat) : (trs e xs)[o]? = (xs[o]?).map (S.tr e) := by simp [trs]
theorem trs_sub (e : Env) (xs : List S) (o n : Nat) : (trs e xs).extract o (o + n) = trs e ((xs.drop o).take n) := by
  simp [trs, List.map_take, List.map_drop]
theorem all_get {f : S → Bool} {xs : List S} {o : Nat} {s : S} (h : xs.all f = true) (hs : xs[o]? = some s) : f s = true := by
  simp only [List.all_eq_true] at h; exact h s (List.mem_of_getElem? hs)
theorem all_sub {f : S → Bool} {xs : List S} (o n : Nat) (h : xs.all f = true) : ((xs.drop o).take n).all f = true := by
  simp only [List.all_eq_true] at *; exact fun x hx => h x (List.mem_of_mem_drop (List.mem_of_mem_take hx))
section
variable {P : Program} (w : World)
theorem run_isAgg_some {T : TypeId} {n : Nat} (h : shapeOf P T = some (some n)) : (isAgg T).run P w = .ok true w ∧ (sizeOf T).run P w = .ok n w := by
  unfold shapeOf at h
  split at h
  · rename_i i fs hi hu; cases h; exact ⟨by simp [isAgg, run_underlying hu], by simp [sizeOf, typeInfo, hi]⟩
  · rename_i i n e hi hu; cases h; exact ⟨by simp [isAgg, run_underlying hu], by simp [sizeOf, typeInfo, hi]⟩
  · cases h
  · cases h
theorem run_isAgg_none {T : TypeId} (h : shapeOf P T = some none) : (isAgg T).run P w = .ok false w := by
  unfold shapeOf at h
  split at h
  · cases h
  · cases h
  · rename_i i d h1 h2 hi hu
    simp only [isAgg, Sem.run_bind, run_underlying hu, Result.andThen_ok]
    rfl
  · cases h
theorem run_part_some {T : TypeId} {n : Nat} (h : shapeOf P T = some (some n)) (e : Env) (xs : List S) (off : Nat) :
    (part T (trs e xs) off).run P w = .ok (.agg (trs e ((xs.drop off).take n))) w := by
  have := run_isAgg_some w h
  simp [part, this.1, this.2, trs_sub]
theorem run_part_none {T : TypeId} (h : shapeOf P T = some none) (e : Env) (xs : List S) (off : Nat) {s : S} (hs : xs[off]? = some s) :
    (part T (trs e xs) off).run P w = .ok (s.tr e) w := by
  have := run_isAgg_none w h
  simp [part, this, trs_get, hs]
end
section
variable {Y : Lay} {P : Program} {o : Oper}
theorem idxK_some {i : V} {n : Nat} {c : Nat → Ans} {r : RES} (h : idxK i n c = some r) : ∃ k m, i = .s (.i k (Int.ofNat m)) ∧ m < n ∧ m < 18446744073709551616 ∧ c m = some r ∧ ∀ c, idxK i n c = c m := by
  obtain ⟨k, z, hz, h⟩ := asI_some (show asI i _ = some r from h)
  cases z with
  | ofNat m =>
    obtain ⟨hb, h⟩ := onB_t (show onB (and (Nat.blt m n) (Nat.blt m 18446744073709551616)) (c m) none = some r from h)
    obtain ⟨b1, b2⟩ := and_t hb
    refine ⟨k, m, hz, nat_lt b1, nat_lt b2, h, fun c => ?_⟩
    show asI i _ = _
    rw [hz]
    show onB (and (Nat.blt m n) (Nat.blt m 18446744073709551616)) (c m) none = _
    rw [hb]; rfl
  | negSucc m => cases h
theorem reB_nat {m : Nat} (h : m < 18446744073709551616) : reB (Int.ofNat m) = true := by
  show Nat.blt m _ = true
  rw [Nat.blt_eq]; exact h
theorem pure_fld {T : TypeId} {x : Operand} {y : O} {j : Nat} {fs : Array Field} {f : Field} {n : Option Nat} (ho : o.op = .field T x j) (hu : P.underlying T = some (.struct fs)) (hf : fs[j]? = some f)
    (hn : shapeOf P f.type = some n) (hx : compX Y x = some y) : Pure Y P o (.fld y f.offset n) := by
  intro cal t h k r hr
  obtain ⟨l, hl, hr⟩ := asA_some (show asA (ev t y) _ = some r from hr)
  cases n with
  | none =>
    obtain ⟨s, hs, hr⟩ := onO_some (show onO (nthF l f.offset) _ = some r from hr)
    refine ⟨.s s, fun cal h k => ?_, fun e g a hT => ?_⟩
    · show asA (ev t y) _ = _
      rw [hl]; show onO (nthF l f.offset) _ = _
      rw [hs]; rfl
    obtain ⟨h1, h2⟩ := ev_eq hT (x := x) (by simp [ho, Op.operands]) hx hl (by simp) rfl
    rw [nthF_eq] at hs
    exact ⟨_, .mk _, V.rf_s (all_get h2 hs), fun w => by simp [execOp, ho, h1, V.tr, Instr.field, run_underlying hu, hf, asAgg, run_part_none w hn e l _ hs]⟩
  | some n =>
    obtain ⟨s, hs, hr⟩ := onO_some (show onO (tkF (drF l f.offset) n) _ = some r from hr)
    refine ⟨.agg s, fun cal h k => ?_, fun e g a hT => ?_⟩
    · show asA (ev t y) _ = _
      rw [hl]; show onO (tkF (drF l f.offset) n) _ = _
      rw [hs]; rfl
    obtain ⟨h1, h2⟩ := ev_eq hT (x := x) (by simp [ho, Op.operands]) hx hl (by simp) rfl
    obtain ⟨rfl, hlen⟩ := tkF_some hs
    rw [drF_eq] at hlen ⊢
    exact ⟨_, .mk _, all_sub _ _ h2, fun w => by simp [execOp, ho, h1, V.tr, Instr.field, run_underlying hu, hf, asAgg, run_part_some w hn e l]⟩
theorem pure_ia {T e : TypeId} {x i : Operand} {y i' : O} {arr : Option Nat} {kd : TypeInfo} (ho : o.op = .indexAddr T x i)
    (hu : match arr with | some n => P.underlying T = some (.array n e) | none => P.underlying T = some (.slice e)) (hk : P.info? e = some kd)
    (hx : compX Y x = some y) (hi : compX Y i = some i') : Pure Y P o (.ia arr kd.size y i') := by
  intro cal t h k r hr
  cases arr with
  | some n =>
    obtain ⟨q, off, hq, hr⟩ := asP_some (show asP (ev t y) _ = some r from hr)
    obtain ⟨k1, m, hm, m1, m2, hr, hc⟩ := idxK_some hr
    refine ⟨.s (.p q (off + m * kd.size)), fun cal h k => ?_, fun en g a hT => ?_⟩
    · show asP (ev t y) _ = _
      simp only [hq, e_asP, hc, fN_eq]; rfl
    obtain ⟨h1, h2⟩ := ev_eq hT (x := x) (by simp [ho, Op.operands]) hx hq (by simp) rfl
    have h3 := ev_i hT (x := i) (by simp [ho, Op.operands]) hi hm (reB_nat m2)
    simp only at hu
    exact ⟨_, .mk _, h2, fun w => by simp [execOp, ho, h1, h3, V.tr, S.tr, Instr.indexAt, asIntOf, run_underlying hu, Instr.sureAddr, m1, sizeOf, typeInfo, hk, adr_add]⟩
  | none =>
    obtain ⟨s, hs, hr⟩ := asS_some (show asS (ev t y) _ = some r from hr)
    cases s <;> first | (cases hr; done) | skip
    rotate_left
    · rename_i q n
      obtain ⟨k1, m, hm, m1, m2, hr, hc⟩ := idxK_some (show idxK (ev t i') (Bool.rec (Nat.mod n 4294967296) n (Nat.blt n 4294967296)) _ = some r from hr)
      refine ⟨.s (.p q (0 + m * kd.size)), fun cal h k => ?_, fun en g a hT => ?_⟩
      · show asS (ev t y) _ = _
        simp only [hs, e_asS, hc, fN_eq]; rfl
      obtain ⟨h1, h2⟩ := ev_eq hT (x := x) (by simp [ho, Op.operands]) hx hs (by simp) rfl
      have h3 := ev_i hT (x := i) (by simp [ho, Op.operands]) hi hm (reB_nat m2)
      simp only at hu
      have m3 : m < sgN en.ρ n := by
        show m < (Bool.rec _ _ (Nat.blt n 4294967296) : Nat)
        cases hb : Nat.blt n 4294967296 with
        | true => rw [hb] at m1; exact Nat.lt_of_lt_of_le m1 (Nat.le_max_left _ _)
        | false => rw [hb] at m1; exact m1
      simp only [V.tr, S.tr] at h1
      exact ⟨_, .mk _, h2, fun w => by simp [execOp, ho, h1, h3, V.tr, S.tr, Instr.indexAt, asIntOf, run_underlying hu, m3, sizeOf, typeInfo, hk, adr_add]⟩
    rename_i q off n c
    obtain ⟨k1, m, hm, m1, m2, hr, hc⟩ := idxK_some (show idxK (ev t i') n _ = some r from hr)
    refine ⟨.s (.p q (off + m * kd.size)), fun cal h k => ?_, fun en g a hT => ?_⟩
    · show asS (ev t y) _ = _
      simp only [hs, e_asS, hc, fN_eq]; rfl
    obtain ⟨h1, h2⟩ := ev_eq hT (x := x) (by simp [ho, Op.operands]) hx hs (by simp) rfl
    have h3 := ev_i hT (x := i) (by simp [ho, Op.operands]) hi hm (reB_nat m2)
    simp only at hu
    exact ⟨_, .mk _, h2, fun w => by simp [execOp, ho, h1, h3, V.tr, S.tr, Instr.indexAt, asIntOf, run_underlying hu, m1, sizeOf, typeInfo, hk, adr_add]⟩
theorem pure_ix {T e : TypeId} {x i : Operand} {y i' : O} {len : Nat} {n : Option Nat} {kd : TypeInfo} (ho : o.op = .index T x i)
    (hu : P.underlying T = some (.array len e)) (hk : P.info? e = some kd) (hn : shapeOf P e = some n)
    (hx : compX Y x = some y) (hi : compX Y i = some i') : Pure Y P o (.ix len kd.size n y i') := by
  intro cal t h k r hr
  obtain ⟨l, hl, hr⟩ := asA_some (show asA (ev t y) _ = some r from hr)
  obtain ⟨k1, m, hm, m1, m2, hr, hc⟩ := idxK_some (show idxK (ev t i') len _ = some r from hr)
  cases n with
  | none =>
    obtain ⟨s, hs, hr⟩ := onO_some (show onO (nthF l (m * kd.size)) _ = some r from hr)
    refine ⟨.s s, fun cal h k => ?_, fun en g a hT => ?_⟩
    · show asA (ev t y) _ = _
      rw [hl]; show idxK (ev t i') len _ = _
      rw [hc]; show onO (nthF l (m * kd.size)) _ = _
      rw [hs]; rfl
    obtain ⟨h1, h2⟩ := ev_eq hT (x := x) (by simp [ho, Op.operands]) hx hl (by simp) rfl
    have h3 := ev_i hT (x := i) (by simp [ho, Op.operands]) hi hm (reB_nat m2)
    rw [nthF_eq] at hs
    exact ⟨_, .mk _, V.rf_s (all_get h2 hs), fun w => by simp [execOp, ho, h1, h3, V.tr, S.tr, Instr.index, asIntOf, run_underlying hu, m1, sizeOf, typeInfo, hk, run_part_none w hn en l _ hs]⟩
  | some n =>
    obtain ⟨s, hs, hr⟩ := onO_some (show onO (tkF (drF l (m * kd.size)) n) _ = some r from hr)
    refine ⟨.agg s, fun cal h k => ?_, fun en g a hT => ?_⟩
    · show asA (ev t y) _ = _
      rw [hl]; show idxK (ev t i') len _ = _
      rw [hc]; show onO (tkF (drF l (m * kd.size)) n) _ = _
      rw [hs]; rfl
    obtain ⟨h1, h2⟩ := ev_eq hT (x := x) (by simp [ho, Op.operands]) hx hl (by simp) rfl
    have h3 := ev_i hT (x := i) (by simp [ho, Op.operands]) hi hm (reB_nat m2)
    obtain ⟨rfl, hlen⟩ := tkF_some hs
    rw [drF_eq] at hlen ⊢
    exact ⟨_, .mk _, all_sub _ _ h2, fun w => by simp [execOp, ho, h1, h3, V.tr, S.tr, Instr.index, asIntOf, run_underlying hu, m1, sizeOf, typeInfo, hk, run_part_some w hn en l]⟩
theorem nthN_eq : ∀ (l : List Nat) (n : Nat), nthN l n = l[n]?
  | [], _ => rfl
  | x :: _, 0 => rfl
  | _ :: l, n + 1 => by show nthN l n = _; rw [nthN_eq l n]; rfl
theorem pure_ixs {T : TypeId} {x i : Operand} {y i' : O} (ho : o.op = .index T x i) (hu : P.underlying T = some .string) (hx : compX Y x = some y) (hi : compX Y i = some i') : Pure Y P o (.ixs y i') := by
  intro cal t h k r hr
  obtain ⟨s, hs, hr⟩ := asS_some (show asS (ev t y) _ = some r from hr)
  cases s <;> first | (cases hr; done) | skip
  rename_i l
  obtain ⟨k1, z, hz, hr⟩ := asI_some (show asI (ev t i') _ = some r from hr)
  cases z with
  | negSucc m => cases hr
  | ofNat m =>
    obtain ⟨hb, hr⟩ := onB_t (show onB (Nat.blt m 18446744073709551616) _ none = some r from hr)
    obtain ⟨b, hb2, hr⟩ := onO_some (show onO (nthN l m) _ = some r from hr)
    obtain ⟨hb3, hr⟩ := onB_t (show onB (Nat.blt b 256) _ none = some r from hr)
    refine ⟨.s (.i .u8 (Int.ofNat b)), fun cal h k => ?_, fun en g a hT => ?_⟩
    · show asS (ev t y) _ = _
      rw [hs]; show asI (ev t i') _ = _
      rw [hz]; show onB (Nat.blt m 18446744073709551616) _ none = _
      rw [hb]; show onO (nthN l m) _ = _
      rw [hb2]; show onB (Nat.blt b 256) _ none = _
      rw [hb3]; rfl
    obtain ⟨h1, h2⟩ := ev_eq hT (x := x) (by simp [ho, Op.operands]) hx hs (by simp) rfl
    have h3 := ev_i hT (x := i) (by simp [ho, Op.operands]) hi hz (reB_nat (nat_lt hb))
    rw [nthN_eq] at hb2
    have hb3 := nat_lt hb3
    refine ⟨_, .mk _, rfl, fun w => ?_⟩
    have hg : (⟨(l.map UInt8.ofNat).toArray⟩ : ByteArray)[m]? = some (UInt8.ofNat b) := by
      have hm : m < l.length := (List.getElem?_eq_some_iff.1 hb2).1
      rw [getElem?_pos _ _ (by show m < (l.map UInt8.ofNat).toArray.size; simpa using hm)]
      congr 1
      show (l.map UInt8.ofNat).toArray[m]'_ = _
      have := (List.getElem?_eq_some_iff.1 hb2).2
      simp [this]
    have hv : vl en (b : Int) = (b : Int) := vl_lt (by omega)
    simp [execOp, ho, h1, h3, V.tr, S.tr, Instr.index, asIntOf, run_underlying hu, hg, hv]
    omega
theorem pure_len {T e : TypeId} {x : Operand} {y : O} {c : Call} (ho : o.op = .call c) (hc : c.callee = .builtin .len) (ha : c.args.toList = [x]) (hat : c.argTypes.toList = [T])
    (hu : P.underlying T = some (.slice e)) (hx : compX Y x = some y) : Pure Y P o (.len y) := by
  have ha' : c.args = #[x] := by rw [← ha]
  have hat' : c.argTypes = #[T] := by rw [← hat]
  intro cal t h k r hr
  obtain ⟨s, hs, hr⟩ := asS_some (show asS (ev t y) _ = some r from hr)
  cases s <;> first | (cases hr; done) | skip
  · rename_i q off n cp
    obtain ⟨hb, hr⟩ := onB_t (show onB (Nat.blt n 18446744073709551616) _ none = some r from hr)
    refine ⟨.s (.i .i64 (Int.ofNat n)), fun cal h k => ?_, fun en g a hT => ?_⟩
    · show asS (ev t y) _ = _
      rw [hs]; show onB (Nat.blt n 18446744073709551616) _ none = _
      rw [hb]; rfl
    obtain ⟨h1, h2⟩ := ev_eq hT (x := x) (by simp [ho, Op.operands, Call.operands, hc, ha']) hx hs (by simp) rfl
    have hv : vl en (n : Int) = (n : Int) := vl_lt (by have := nat_lt hb; omega)
    exact ⟨_, .mk _, rfl, fun w => by simp [execOp, ho, h1, V.tr, S.tr, resolve, hc, ha', hat', invoke, builtin, Builtin.len_, run_underlying hu, goInt, hv]⟩
  · refine ⟨.s (.i .i64 (Int.ofNat 0)), fun cal h k => ?_, fun en g a hT => ?_⟩
    · show asS (ev t y) _ = _
      rw [hs]; rfl
    obtain ⟨h1, h2⟩ := ev_eq hT (x := x) (by simp [ho, Op.operands, Call.operands, hc, ha']) hx hs (by simp) rfl
    exact ⟨_, .mk _, rfl, fun w => by simp [execOp, ho, h1, V.tr, S.tr, resolve, hc, ha', hat', invoke, builtin, Builtin.len_, run_underlying hu, goInt, vl]⟩
  · refine ⟨.s (.i .i64 (Int.ofNat 0)), fun cal h k => ?_, fun en g a hT => ?_⟩
    · show asS (ev t y) _ = _
      rw [hs]; rfl
    obtain ⟨h1, h2⟩ := ev_eq hT (x := x) (by simp [ho, Op.operands, Call.operands, hc, ha']) hx hs (by simp) rfl
    exact ⟨_, .mk _, rfl, fun w => by simp [execOp, ho, h1, V.tr, S.tr, resolve, hc, ha', hat', invoke, builtin, Builtin.len_, run_underlying hu, goInt, vl]⟩
  · rename_i q n
    cases hb : Nat.blt n 4294967296 with
    | true =>
      refine ⟨.s (.i .i64 (Int.ofNat (gN + n))), fun cal h k => ?_, fun en g a hT => ?_⟩
      · show asS (ev t y) _ = _
        rw [hs]; show (Bool.rec _ _ (Nat.blt n 4294967296) : Ans) = _
        rw [hb]; show fN (Nat.add gN n) _ = _
        rw [fN_eq]; rfl
      obtain ⟨h1, h2⟩ := ev_eq hT (x := x) (by simp [ho, Op.operands, Call.operands, hc, ha']) hx hs (by simp) rfl
      have hv : vl en (Int.ofNat (gN + n)) = ((Nat.max n (en.ρ 100).toNat : Nat) : Int) := by
        unfold vl
        rw [if_pos (by show (18446744073709551616 : Int) ≤ ((gN + n : Nat) : Int); unfold gN; omega), if_pos (by show (symN : Int) ≤ ((gN + n : Nat) : Int); unfold gN symN; omega), if_pos (by show (gN : Int) ≤ ((gN + n : Nat) : Int); omega), if_neg (by show ¬ (qN : Int) ≤ ((gN + n : Nat) : Int); have := nat_lt hb; unfold gN qN; omega)]
        show ((Nat.max (sC (gN + n)) (en.ρ 100).toNat : Nat) : Int) = _
        have : sC (gN + n) = n := by
          show (gN + n) % 18446744073709551616 = n
          have := nat_lt hb
          unfold gN; omega
        rw [this]
      have hl : sgN en.ρ n = Nat.max n (en.ρ 100).toNat := by
        show (Bool.rec _ _ (Nat.blt n 4294967296) : Nat) = _
        rw [hb]
      refine ⟨_, .mk _, rfl, fun w => ?_⟩
      simp only [V.tr, S.tr, hv]
      simp only [V.tr, S.tr, hl] at h1
      simp [execOp, ho, h1, resolve, hc, ha', hat', invoke, builtin, Builtin.len_, run_underlying hu, goInt]
    | false =>
      refine ⟨.s (.i .i64 (Int.ofNat (n % 4294967296))), fun cal h k => ?_, fun en g a hT => ?_⟩
      · show asS (ev t y) _ = _
        rw [hs]; show (Bool.rec _ _ (Nat.blt n 4294967296) : Ans) = _
        rw [hb]; show fN (Nat.mod n 4294967296) _ = _
        rw [fN_eq]; rfl
      obtain ⟨h1, h2⟩ := ev_eq hT (x := x) (by simp [ho, Op.operands, Call.operands, hc, ha']) hx hs (by simp) rfl
      have hv : vl en (Int.ofNat (n % 4294967296)) = ((n % 4294967296 : Nat) : Int) := vl_lt (by show ((n % 4294967296 : Nat) : Int) < _; omega)
      have hl : sgN en.ρ n = n % 4294967296 := by
        show (Bool.rec _ _ (Nat.blt n 4294967296) : Nat) = _
        rw [hb]; rfl
      refine ⟨_, .mk _, rfl, fun w => ?_⟩
      simp only [V.tr, S.tr, hv]
      simp only [V.tr, S.tr, hl] at h1
      simp [execOp, ho, h1, resolve, hc, ha', hat', invoke, builtin, Builtin.len_, run_underlying hu, goInt]
theorem mxY_ok {n m : Int} {p : Bool} (h : mxY n m = some p) (e : Env) : kn n = true ∧ kn m = true ∧ if p then vl e n ≤ vl e m else vl e m ≤ vl e n := by
  cases n with
  | negSucc x => cases h
  | ofNat x => cases m with
    | negSucc y => cases h
    | ofNat y =>
      obtain ⟨la, ha, v, h, e1, a1, a2, k1⟩ := rgK_out (e := e) (show rgK x (fun la ha => rgK y fun lb hb => onB (Nat.ble ha lb) (some true) (onB (Nat.ble hb la) (some false) none)) = some p from h)
      obtain ⟨lb, hb, u, h, e2, b1, b2, k2⟩ := rgK_out (e := e) h
      refine ⟨k1, k2, ?_⟩
      rw [e1, e2]
      rcases onB_or h with ⟨hc, h⟩ | ⟨_, h⟩
      · have hc := Nat.le_of_ble_eq_true hc; cases h
        simp only [if_true]; omega
      · obtain ⟨hc, h⟩ := onB_t' h
        have hc := Nat.le_of_ble_eq_true hc; cases h
        simp only [Bool.false_eq_true, if_false]; omega
theorem pure_mx {q : Bool} {x y : Operand} {x' y' : O} {c : Call} (ho : o.op = .call c) (hc : c.callee = .builtin (if q then .max else .min)) (ha : c.args.toList = [x, y])
    (hx : compX Y x = some x') (hy : compX Y y = some y') : Pure Y P o (.mx q x' y') := by
  have ha' : c.args = #[x, y] := by rw [← ha]
  intro cal t h k r hr
  obtain ⟨k1, n, hn, hr⟩ := asI_some (show asI (ev t x') _ = some r from hr)
  obtain ⟨k2, m, hm, hr⟩ := asI_some (show asI (ev t y') _ = some r from hr)
  rcases onB_or hr with ⟨hb, hr⟩ | ⟨hb0, hr⟩
  rotate_left
  · obtain ⟨hk, hr⟩ := onB_t' hr
    obtain ⟨p, hp, hr⟩ := onO_some hr
    obtain rfl := kEq_t hk
    have hev : ∀ cal h k, exJ (.mx q x' y') cal t h k = k (.s (.i k1 (if q = p then m else n))) h := fun cal h k => by
      show asI (ev t x') _ = _
      rw [hn]; show asI (ev t y') _ = _
      rw [hm]; show onB (and (kEq k1 k1) (and (reB n) (reB m))) _ _ = _
      rw [hb0]; show onB (kEq k1 k1) _ _ = _
      rw [hk]; show onO (mxY n m) _ = _
      rw [hp]
      cases q <;> cases p <;> rfl
    refine ⟨_, hev, fun en g a hT => ?_⟩
    obtain ⟨c1, c2, c3⟩ := mxY_ok hp en
    have h1 := (ev_eq hT (x := x) (by simp [ho, Op.operands, Call.operands, ha']) hx hn (by simp) (by exact c1)).1
    have h2 := (ev_eq hT (x := y) (by simp [ho, Op.operands, Call.operands, ha']) hy hm (by simp) (by exact c2)).1
    simp only [V.tr, S.tr] at h1 h2
    refine ⟨_, .mk _, ?_, fun w => ?_⟩
    · cases q <;> cases p <;> rfl
    cases q
    · have : (if vl en m < vl en n then vl en m else vl en n) = vl en (if false = p then m else n) := by
        cases p with
        | true => simp only [if_true] at c3; rw [if_neg (by omega)]; simp
        | false => simp only [Bool.false_eq_true, if_false] at c3; simp only [if_true]; split <;> omega
      simp [execOp, ho, h1, h2, V.tr, S.tr, resolve, hc, ha', invoke, builtin, run_min_int2, this]
    · have : (if vl en n < vl en m then vl en m else vl en n) = vl en (if true = p then m else n) := by
        cases p with
        | true => simp only [if_true] at c3; simp only [if_true]; split <;> omega
        | false => simp only [Bool.false_eq_true, if_false] at c3; rw [if_neg (by omega)]; simp
      simp [execOp, ho, h1, h2, V.tr, S.tr, resolve, hc, ha', invoke, builtin, run_max_int2, this]
  obtain ⟨b1, b2⟩ := and_t hb
  obtain ⟨b2, b3⟩ := and_t b2
  obtain rfl := kEq_t b1
  have hev : ∀ cal h k, exJ (.mx q x' y') cal t h k = k (.s (.i k1 (if q then (if m > n then m else n) else (if m < n then m else n)))) h := fun cal h k => by
    show asI (ev t x') _ = _
    rw [hn]; show asI (ev t y') _ = _
    rw [hm]; show onB (and (kEq k1 k1) (and (reB n) (reB m))) _ _ = _
    rw [hb]
    show (Bool.rec (Bool.rec (k (.s (.i k1 m)) h) (k (.s (.i k1 n)) h) (leF n m) : Ans) (Bool.rec (k (.s (.i k1 n)) h) (k (.s (.i k1 m)) h) (leF n m)) q : Ans) = _
    rw [leF_eq]
    cases q
    · by_cases c : n ≤ m
      · rw [if_neg (by simp), if_neg (by omega)]; simp [c]
      · rw [if_neg (by simp), if_pos (by omega)]; simp [c]
    · by_cases c : n ≤ m
      · by_cases c2 : m > n
        · rw [if_pos rfl, if_pos c2]; simp [c]
        · have : m = n := by omega
          subst this; simp
      · rw [if_pos rfl, if_neg (by omega)]; simp [c]
  refine ⟨_, hev, fun en g a hT => ?_⟩
  have h1 := ev_i hT (x := x) (by simp [ho, Op.operands, Call.operands, ha']) hx hn b2
  have h2 := ev_i hT (x := y) (by simp [ho, Op.operands, Call.operands, ha']) hy hm b3
  have l1 := reB_lt b2
  have l2 := reB_lt b3
  refine ⟨_, .mk _, rfl, fun w => ?_⟩
  cases q
  · have : vl en (if m < n then m else n) = (if m < n then m else n) := vl_lt (by split <;> omega)
    simp [execOp, ho, h1, h2, V.tr, S.tr, resolve, hc, ha', invoke, builtin, run_min_int2, this]
  · have : vl en (if m > n then m else n) = (if m > n then m else n) := vl_lt (by split <;> omega)
    simp only [gt_iff_lt] at this
    simp [execOp, ho, h1, h2, V.tr, S.tr, resolve, hc, ha', invoke, builtin, run_max_int2, this]
theorem capsK_some {Y : Lay} {e : Env} {t : T} {f : Pth → Bool} {a : Act} {Z : Operand → Prop} (hT : OT Y e t f a Z) : ∀ {xs : List Operand} {ys : List O} {cs : List (Pth × Nat)}, (∀ x ∈ xs, Z x) → compXs Y xs = some ys → capsK (evs t ys) = some cs →
    xs.map a.eval = cs.map (fun x => Value.pointer (some (adr e x.1 x.2))) ∧ cs.all (fun x => f x.1) = true
  | [], ys, cs, _, hx, hc => by
    simp only [compXs, Option.some.injEq] at hx; subst hx
    cases hc
    exact ⟨rfl, rfl⟩
  | x :: xs, ys, cs, hS, hx, hc => by
    simp only [compXs] at hx
    cases h1 : compX Y x with
    | none => simp [h1] at hx
    | some y =>
      cases h2 : compXs Y xs with
      | none => simp [h1, h2] at hx
      | some l =>
        simp only [h1, h2, Option.some.injEq] at hx
        subst hx
        obtain ⟨q, n, hq, hc⟩ := asP_some (show asP (ev t y) _ = some cs from hc)
        cases hl : capsK (evs t l) with
        | none =>
          have hc : (Option.casesOn (capsK (evs t l)) none fun l => some ((q, n) :: l) : Option (List (Pth × Nat))) = some cs := hc
          rw [hl] at hc; cases hc
        | some l' =>
          have hc : (Option.casesOn (capsK (evs t l)) none fun l => some ((q, n) :: l) : Option (List (Pth × Nat))) = some cs := hc
          rw [hl] at hc
          cases hc
          obtain ⟨i1, i2⟩ := capsK_some hT (fun x hx => hS x (List.mem_cons_of_mem _ hx)) h2 hl
          obtain ⟨v1, v2⟩ := ev_eq hT (hS x List.mem_cons_self) h1 hq (by simp) rfl
          refine ⟨by simp [v1, i1, V.tr, S.tr], ?_⟩
          simp only [List.all_cons, Bool.and_eq_true]
          exact ⟨v2, i2⟩
theorem pure_mkf {f : FuncId} {first caps : Array Operand} {ys : List O} (ho : o.op = .makeFunc (.func f) first caps) (hfirst : first.toList = []) (hx : compXs Y caps.toList = some ys) : Pure Y P o (.mkf (Pth.of f) ys) := by
  intro cal t h k r hr
  obtain ⟨cs, hcs, hr⟩ := onO_some (show onO (capsK (evs t ys)) _ = some r from hr)
  refine ⟨.s (.fn (Pth.of f) cs), fun cal h k => ?_, fun en g a hT => ?_⟩
  · show onO (capsK (evs t ys)) _ = _
    rw [hcs]; rfl
  have hf : first = #[] := by simpa using hfirst
  obtain ⟨h1, h2⟩ := capsK_some hT (xs := caps.toList) (fun x hx => by simp only [ho, Op.operands, hf]; simpa using hx) hx hcs
  have hcaps : caps.map a.eval = (cs.map fun x => Value.pointer (some (adr en x.1 x.2))).toArray := by
    rw [← h1, ← Array.toList_map, Array.toArray_toList]
  exact ⟨_, .mk _, h2, fun w => by simp [execOp, ho, V.tr, S.tr, Instr.makeFunc, hf, hcaps, Pth.of_n]⟩
theorem pure_mkm {f : FuncId} {first caps : Array Operand} {x : Operand} {y : O} (ho : o.op = .makeFunc (.func f) first caps) (hfirst : first.toList = [x]) (hcaps : caps.toList = []) (hx : compX Y x = some y) : Pure Y P o (.mkm (Pth.of f) y) := by
  have hf : first = #[x] := by rw [← hfirst]
  have hc : caps = #[] := by simpa using hcaps
  intro cal t h k r hr
  cases hv : ev t y with
  | s s =>
    have hr : x_mkm (Pth.of f) y cal t h k = some r := hr
    unfold x_mkm at hr
    rw [hv] at hr
    obtain ⟨q, n, hq, hr⟩ := asP_some (show asP (.s s) _ = some r from hr)
    cases hq
    refine ⟨.s (.fm (Pth.of f) false q n), fun cal h k => ?_, fun en g a hT => ?_⟩
    · show x_mkm (Pth.of f) y cal t h k = _
      unfold x_mkm
      rw [hv]; rfl
    obtain ⟨h1, h2⟩ := ev_eq hT (x := x) (by simp [ho, Op.operands, hf, hc]) hx hv (by simp) rfl
    exact ⟨_, .mk _, h2, fun w => by simp [execOp, ho, V.tr, S.tr, Instr.makeFunc, hf, hc, h1, Pth.of_n]⟩
  | agg l =>
    have hr : x_mkm (Pth.of f) y cal t h k = some r := hr
    unfold x_mkm at hr
    rw [hv] at hr
    cases l with
    | nil => cases hr
    | cons s l =>
      cases l with
      | cons _ _ => cases hr
      | nil =>
        obtain ⟨q, n, hq, hr⟩ := asP_some (show asP (.s s) _ = some r from hr)
        cases hq
        refine ⟨.s (.fm (Pth.of f) true q n), fun cal h k => ?_, fun en g a hT => ?_⟩
        · show x_mkm (Pth.of f) y cal t h k = _
          unfold x_mkm
          rw [hv]; rfl
        obtain ⟨h1, h2⟩ := ev_eq hT (x := x) (by simp [ho, Op.operands, hf, hc]) hx hv (by simp) rfl
        exact ⟨_, .mk _, (by
          have h2 : [S.p q n].all (S.rf g) = true := h2
          have h2 : S.rf g (.p q n) = true := by simpa using h2
          exact h2), fun w => by simp [execOp, ho, V.tr, S.tr, trs, Instr.makeFunc, hf, hc, h1, Pth.of_n]⟩
  | tup _ =>
    have hr : x_mkm (Pth.of f) y cal t h k = some r := hr
    unfold x_mkm at hr
    rw [hv] at hr; cases hr
  | u =>
    have hr : x_mkm (Pth.of f) y cal t h k = some r := hr
    unfold x_mkm at hr
    rw [hv] at hr; cases hr
end
section
variable {β : Type} (k k' : IntKind) (a b : Int) (c : V → Option β)
theorem binK_add : binK .add k k' a b c = c (.s (.i k (k.wrap (a + b)))) := rI_eq k (a + b) c
theorem binK_sub : binK .sub k k' a b c = c (.s (.i k (k.wrap (a - b)))) := rI_eq k (a - b) c
theorem binK_mul : binK .mul k k' a b c = c (.s (.i k (k.wrap (a * b)))) := rI_eq k (a * b) c
theorem binK_quo (h : eqF b 0 = false) : binK .quo k k' a b c = c (.s (.i k (k.wrap (a.tdiv b)))) := by
  show onB (eqF b 0) none (rI k (a.tdiv b) c) = _
  rw [h, e_f, rI_eq]
theorem binK_rem (h : eqF b 0 = false) : binK .rem k k' a b c = c (.s (.i k (a.tmod b))) := by
  show onB (eqF b 0) none (rI' k (a.tmod b) c) = _
  rw [h, e_f, rI'_eq]
theorem binK_and : binK .and k k' a b c = c (.s (.i k (bits .and k a b))) := by
  show rI' k (bitF .and k Nat.land a b) c = _
  rw [rI'_eq, bitF_eq bits_and64]
theorem binK_or : binK .or k k' a b c = c (.s (.i k (bits .or k a b))) := by
  show rI' k (bitF .or k Nat.lor a b) c = _
  rw [rI'_eq, bitF_eq bits_or64]
theorem binK_xor : binK .xor k k' a b c = c (.s (.i k (bits .xor k a b))) := by
  show rI' k (bitF .xor k Nat.xor a b) c = _
  rw [rI'_eq, bitF_eq bits_xor64]
theorem binK_shl (h : leF 0 b = true) : binK .shl k k' a b c = c (.s (.i k (k.wrap (a * 2 ^ min b.toNat k.bits)))) := by
  show onB (leF 0 b) (rI k (a * p2 k b) c) none = _
  rw [h, e_t, rI_eq, p2_eq]
theorem binK_shr (h : leF 0 b = true) : binK .shr k k' a b c = c (.s (.i k (a / 2 ^ min b.toNat k.bits))) := by
  show onB (leF 0 b) (rI' k (Int.fdiv a (p2 k b)) c) none = _
  have hp : (0 : Int) < 2 ^ min b.toNat k.bits := Int.pow_pos (by omega)
  rw [h, e_t, rI'_eq, p2_eq, Int.fdiv_eq_ediv_of_nonneg _ (Int.le_of_lt hp)]
theorem binK_andNot : binK .andNot k k' a b c = c (.s (.i k (bits .andNot k a b))) := rI'_eq k _ c
theorem binK_eql : binK .eql k k' a b c = c (.s (.b (a == b))) := by
  show rQ (eqF a b) c = _
  rw [rQ_eq, eqF_eq]; rfl
theorem binK_neq : binK .neq k k' a b c = c (.s (.b (a != b))) := by
  show rQ (Bool.not (eqF a b)) c = _
  rw [rQ_eq, eqF_eq]; rfl
theorem binK_lss : binK .lss k k' a b c = c (.s (.b (decide (a < b)))) := by
  show rQ (Bool.not (leF b a)) c = _
  rw [rQ_eq, leF_eq]
  congr 3
  by_cases h : a < b
  · simp [h]
  · simp [h]; omega
theorem binK_leq : binK .leq k k' a b c = c (.s (.b (decide (a ≤ b)))) := by
  show rQ (leF a b) c = _
  rw [rQ_eq, leF_eq]
theorem binK_gtr : binK .gtr k k' a b c = c (.s (.b (decide (a > b)))) := by
  show rQ (Bool.not (leF a b)) c = _
  rw [rQ_eq, leF_eq]
  congr 3
  by_cases h : a > b
  · simp [h]
  · simp [h]; omega
theorem binK_geq : binK .geq k k' a b c = c (.s (.b (decide (a ≥ b)))) := by
  show rQ (leF b a) c = _
  rw [rQ_eq, leF_eq]
end
section
variable {Y : Lay} {P : Program} {o : Oper}
theorem ev_int {e : Env} {t : T} {f : Pth → Bool} {a : Act} {Z : Operand → Prop} (hT : OT Y e t f a Z) {x : Operand} {y : O} (hS : Z x) (hx : compX Y x = some y) {n : Int} (hv : ev t y = .s (.i .i64 n)) : ∃ m, a.eval x = .int .i64 m := by
  obtain ⟨_, h2⟩ := ev_is hT hS hx
  rw [hv] at h2
  rcases h2 with h2 | h2 | ⟨_, h2⟩ | ⟨h2, _⟩
  · cases h2
  · exact ⟨_, h2⟩
  · exact h2
  · cases h2
theorem fdiv_le (a b : Int) (hb : 0 < b) (h : a < 18446744073709551616) : Int.fdiv a b < 18446744073709551616 := by
  rw [Int.fdiv_eq_ediv_of_nonneg _ (Int.le_of_lt hb)]
  by_cases ha : 0 ≤ a
  · exact Int.lt_of_le_of_lt (Int.ediv_le_self _ ha) h
  · have := Int.ediv_neg_of_neg_of_pos (by omega : a < 0) hb
    omega
theorem tmod_lt (a b : Int) (h : a < 18446744073709551616) : Int.tmod a b < 18446744073709551616 := by
  by_cases ha : 0 ≤ a
  · have h2 : Int.tmod a b ≤ a := by
      obtain ⟨m, rfl⟩ := Int.eq_ofNat_of_zero_le ha
      rcases b with n | n
      · show ((m % n : Nat) : Int) ≤ m
        exact Int.ofNat_le.2 (Nat.mod_le _ _)
      · show ((m % (n + 1) : Nat) : Int) ≤ m
        exact Int.ofNat_le.2 (Nat.mod_le _ _)
    omega
  · have : Int.tmod a b ≤ 0 := by
      have := Int.tmod_nonneg b (by omega : 0 ≤ -a)
      rw [Int.neg_tmod] at this
      omega
    omega
theorem oI_out {β : Type} {o : Option Nat} {f : Nat → Option β} {z : Option β} {r : β} (h : oI o f z = some r) : (∃ n, o = some n ∧ f n = some r) ∨ (o = none ∧ z = some r) := by
  cases o with
  | none => exact .inr ⟨rfl, h⟩
  | some n => exact .inl ⟨n, rfl, h⟩
theorem oQ_out {β : Type} {o : Option Bool} {f : Bool → Option β} {z : Option β} {r : β} (h : oQ o f z = some r) : (∃ n, o = some n ∧ f n = some r) ∨ (o = none ∧ z = some r) := by
  cases o with
  | none => exact .inr ⟨rfl, h⟩
  | some n => exact .inl ⟨n, rfl, h⟩
theorem syI_op {op : BinOp} {k k' : IntKind} {a b : Int} {p : Nat} (h : syI op k k' a b = some p) : (op = .add ∨ op = .and ∨ op = .or ∨ op = .shl ∨ op = .shr ∨ op = .andNot) ∧ (shB op = true → ∃ y, b = .ofNat y ∧ plN y = true) := by
  cases a with
  | negSucc x => cases h
  | ofNat x => cases b with
    | negSucc y => cases h
    | ofNat y =>
      obtain ⟨_, h⟩ := onB_t' (show onB (or (shB op) (kQ k k')) (onB (plN y) (syO op k x y) (onB (and (comB op) (plN x)) (syO op k y x) none)) none = some p from h)
      rcases onB_or h with ⟨hy, h⟩ | ⟨_, h⟩
      · refine ⟨?_, fun _ => ⟨_, rfl, hy⟩⟩
        cases op <;> first | (simp; done) | (cases h; done)
      · obtain ⟨hb, h⟩ := onB_t' h
        obtain ⟨hc, _⟩ := and_t' hb
        cases op <;> first | (cases hc; done) | exact ⟨by simp, fun hs => by cases hs⟩
theorem bin_sy {op : BinOp} {T U : TypeId} {x y : Operand} {x' y' : O} (ho : o.op = .binOp op T x y U) (hx : compX Y x = some x') (hy : compX Y y = some y') {t : Go.E.T} {h : Hp} {k : KV} {r : RES} {k1 k2 : IntKind} {n m : Int} (hn : ev t x' = .s (.i k1 n)) (hm : ev t y' = .s (.i k2 m))
    (hop : ∀ cal h k, exJ (.bin op x' y') cal t h k = syV op k1 k2 n m fun v => k v h) (hr : syV op k1 k2 n m (fun v => k v h) = some r) :
    ∃ v, (∀ cal h k, exJ (.bin op x' y') cal t h k = k v h) ∧ ∀ e f a, OT Y e t f a (· ∈ o.op.operands) → ∃ x, Isu e v x ∧ v.rf f = true ∧ ∀ w, (execOp a.eval o).run P w = .ok (.value x) w := by
  have hSx : x ∈ o.op.operands := by simp [ho, Op.operands]
  have hSy : y ∈ o.op.operands := by simp [ho, Op.operands]
  have q1 : ∀ {e : Env} {f : Pth → Bool} {a : Act}, kn n = true → OT Y e t f a (· ∈ o.op.operands) → a.eval x = .int k1 (vl e n) := fun hk hT => (ev_eq hT hSx hx hn (by simp) (by exact hk)).1
  have q2 : ∀ {e : Env} {f : Pth → Bool} {a : Act}, kn m = true → OT Y e t f a (· ∈ o.op.operands) → a.eval y = .int k2 (vl e m) := fun hk hT => (ev_eq hT hSy hy hm (by simp) (by exact hk)).1
  rcases onB_or hr with ⟨hc, hr⟩ | ⟨hc, hr⟩
  · rcases oQ_out hr with ⟨q, hq, hr⟩ | ⟨hq, hr⟩
    rotate_left
    · obtain ⟨hu, hr⟩ := onB_t' hr
      obtain ⟨u1, u2⟩ := and_t' hu
      obtain ⟨u2, u3⟩ := and_t' u2
      obtain rfl := kEq_t u1
      refine ⟨.s .ub, fun cal h k => ?_, fun e f a hT => ?_⟩
      · rw [hop]; unfold syV; rw [hc, hq]; show onB (and (kEq k1 k1) (and (kn n) (kn m))) _ none = _; rw [hu]; rfl
      · have e1 := q1 u2 hT
        have e2 := q2 u3 hT
        cases op <;> first | (cases hc; done) | skip
        all_goals exact ⟨_, .inr (.inr (.inr ⟨rfl, _, rfl⟩)), rfl, fun w => by simp [execOp, ho, e1, e2, eqGuard, binOp, Op.intCmp]; rfl⟩
    refine ⟨.s (.b q), fun cal h k => ?_, fun e f a hT => ⟨_, .mk _, rfl, fun w => ?_⟩⟩
    · rw [hop]; unfold syV; rw [hc, hq]; show rQ q (fun v => k v h) = _; exact rQ_eq _ _
    · obtain ⟨_, rfl, g1, g2, g3⟩ := syB_ok (e := e) hq
      subst g3
      cases op <;> first | (cases hc; done) | skip
      all_goals simp [execOp, ho, q1 g1 hT, q2 g2 hT, V.tr, S.tr, eqGuard, binOp, Op.intCmp, opB]
  · rcases oI_out hr with ⟨p, hp, hr⟩ | ⟨hp, hr⟩
    · refine ⟨.s (.i k1 (.ofNat p)), fun cal h k => ?_, fun e f a hT => ?_⟩
      · rw [hop]; unfold syV; rw [hc, hp]; show rN k1 p (fun v => k v h) = _; exact rN_eq _ _ _
      · obtain ⟨g1, g2, g3, g4, g5⟩ := syI_ok (e := e) hp
        refine ⟨_, .mk _, rfl, fun w => ?_⟩
        obtain ⟨hops, hshb⟩ := syI_op hp
        have hsh : shB op = true → 0 ≤ vl e m := fun hs => by
          obtain ⟨y, rfl, hy⟩ := hshb hs
          rw [vl_pl (plN_lt hy)]; omega
        simp only [V.tr, S.tr, g5]
        rcases hops with rfl | rfl | rfl | rfl | rfl | rfl
        · obtain rfl : k1 = k2 := by
            rcases g4 with g4 | g4
            · cases g4
            · exact g4
          simp [execOp, ho, q1 g1 hT, q2 g2 hT, V.tr, S.tr, eqGuard, binOp, Op.intArith, opI]
        · obtain rfl : k1 = k2 := by
            rcases g4 with g4 | g4
            · cases g4
            · exact g4
          simp [execOp, ho, q1 g1 hT, q2 g2 hT, V.tr, S.tr, eqGuard, binOp, intBits_and, opI]
        · obtain rfl : k1 = k2 := by
            rcases g4 with g4 | g4
            · cases g4
            · exact g4
          simp [execOp, ho, q1 g1 hT, q2 g2 hT, V.tr, S.tr, eqGuard, binOp, intBits_or, opI]
        · simp [execOp, ho, q1 g1 hT, q2 g2 hT, V.tr, S.tr, eqGuard, binOp, shift_shl_any _ _ _ _ (hsh rfl), opI]
        · simp [execOp, ho, q1 g1 hT, q2 g2 hT, V.tr, S.tr, eqGuard, binOp, shift_shr_any _ _ _ _ (hsh rfl), opI]
        · obtain rfl : k1 = k2 := by
            rcases g4 with g4 | g4
            · cases g4
            · exact g4
          simp [execOp, ho, q1 g1 hT, q2 g2 hT, V.tr, S.tr, eqGuard, binOp, intBits_andNot, opI]
    · obtain ⟨hu, hr⟩ := onB_t' hr
      refine ⟨.s (.i .i64 unkN), fun cal h k => ?_, fun e f a hT => ?_⟩
      · rw [hop]; unfold syV; rw [hc, hp]; show onB (unkX op k1 k2 n m) _ none = _; rw [hu]; rfl
      · obtain ⟨u1, u2⟩ := and_t' hu
        obtain rfl := kEq_t u1
        cases n with
        | negSucc _ => cases u2
        | ofNat n' => cases m with
          | negSucc _ => cases u2
          | ofNat m' =>
            obtain ⟨u3, u4⟩ := and_t' u2
            obtain ⟨u4, u5⟩ := and_t' u4
            have hkn : kn (.ofNat n') = true := by
              have := (isY_out u3).2.1
              show Nat.blt n' unkN = true
              rw [Nat.blt_eq]; unfold symN at this; unfold unkN; omega
            have hm' : vl e (.ofNat m') = (m' : Int) := vl_pl (plN_lt u4)
            have e1 := q1 hkn hT
            have e2 := q2 (kn_word (plN_lt u4)) hT
            rw [hm'] at e2
            cases op <;> first | (cases u5; done) | skip
            · have u5 : (kEq k2 .i64 && Nat.ble 1 m' || false) = true := u5
              rw [Bool.or_false] at u5
              obtain ⟨u6, u7⟩ := and_t' u5
              obtain rfl := kEq_t u6
              have h0 : (m' : Int) ≠ 0 := by have := Nat.le_of_ble_eq_true u7; omega
              have h0n : m' ≠ 0 := by omega
              exact ⟨_, .inr (.inr (.inl ⟨rfl, _, rfl⟩)), rfl, fun w => by simp [execOp, ho, e1, e2, eqGuard, binOp, Op.intDiv, h0, h0n]; rfl⟩
            · exact ⟨_, .inr (.inr (.inl ⟨rfl, _, rfl⟩)), rfl, fun w => by simp [execOp, ho, e1, e2, eqGuard, binOp, shift_shr_any _ _ _ _ (show (0 : Int) ≤ (m' : Int) by omega)]; rfl⟩
theorem pure_bin {op : BinOp} {T U : TypeId} {x y : Operand} {x' y' : O} (ho : o.op = .binOp op T x y U) (hx : compX Y x = some x') (hy : compX Y y = some y') : Pure Y P o (.bin op x' y') := by
  intro cal t h k r hr
  obtain ⟨k1, n, hn, hr⟩ := asI_some (show asI (ev t x') _ = some r from hr)
  obtain ⟨k2, m, hm, hr⟩ := asI_some (show asI (ev t y') _ = some r from hr)
  have hop : ∀ cal h k, exJ (.bin op x' y') cal t h k = binV0 op k1 k2 n m fun v => k v h := fun cal h k => by
    show asI (ev t x') _ = _
    rw [hn]; show asI (ev t y') _ = _
    rw [hm]; exact binV_eq op k1 k2 n m _
  have hr : binV0 op k1 k2 n m (fun v => k v h) = some r := by rw [← binV_eq]; exact hr
  have hSx : x ∈ o.op.operands := by simp [ho, Op.operands]
  have hSy : y ∈ o.op.operands := by simp [ho, Op.operands]
  rcases onB_some (show onB (and (reB n) (reB m)) _ _ = some r from hr) with ⟨hb, hr⟩ | ⟨hb, hr⟩
  · obtain ⟨hbn, hbm⟩ := and_t hb
    obtain ⟨hk, hr⟩ := onB_t hr
    have hop2 : ∀ cal h k, exJ (.bin op x' y') cal t h k = binK op k1 k2 n m fun v => k v h := fun cal h k => by
      rw [hop]
      show onB (and (reB n) (reB m)) (onB (or (shiftB op) (kEq k1 k2)) _ none) _ = _
      rw [hb, hk]; rfl
    have q1 : ∀ {e : Env} {f : Pth → Bool} {a : Act}, OT Y e t f a (· ∈ o.op.operands) → a.eval x = .int k1 n := fun hT => ev_i hT hSx hx hn hbn
    have q2 : ∀ {e : Env} {f : Pth → Bool} {a : Act}, OT Y e t f a (· ∈ o.op.operands) → a.eval y = .int k2 m := fun hT => ev_i hT hSy hy hm hbm
    have ln := reB_lt hbn
    have lm := reB_lt hbm
    cases op
    case add =>
      obtain rfl : k1 = k2 := kEq_t hk
      exact ⟨.s (.i k1 (k1.wrap (n + m))), fun cal h k => (hop2 cal h k).trans (binK_add _ _ _ _ _), fun e f a hT => ⟨_, .mk _, rfl, fun w => by simp [execOp, ho, q1 hT, q2 hT, V.tr, S.tr, eqGuard, binOp, Op.intArith, vl_lt (wrap_lt k1 _)]⟩⟩
    case sub =>
      obtain rfl : k1 = k2 := kEq_t hk
      exact ⟨.s (.i k1 (k1.wrap (n - m))), fun cal h k => (hop2 cal h k).trans (binK_sub _ _ _ _ _), fun e f a hT => ⟨_, .mk _, rfl, fun w => by simp [execOp, ho, q1 hT, q2 hT, V.tr, S.tr, eqGuard, binOp, Op.intArith, vl_lt (wrap_lt k1 _)]⟩⟩
    case mul =>
      obtain rfl : k1 = k2 := kEq_t hk
      exact ⟨.s (.i k1 (k1.wrap (n * m))), fun cal h k => (hop2 cal h k).trans (binK_mul _ _ _ _ _), fun e f a hT => ⟨_, .mk _, rfl, fun w => by simp [execOp, ho, q1 hT, q2 hT, V.tr, S.tr, eqGuard, binOp, Op.intArith, vl_lt (wrap_lt k1 _)]⟩⟩
    case quo =>
      obtain rfl : k1 = k2 := kEq_t hk
      rcases onB_some (show onB (eqF m 0) none _ = some r from hr) with ⟨_, h0⟩ | ⟨h0, _⟩
      · cases h0
      have hm0 : m ≠ 0 := by rw [eqF_eq] at h0; simpa using h0
      exact ⟨.s (.i k1 (k1.wrap (n.tdiv m))), fun cal h k => (hop2 cal h k).trans (binK_quo _ _ _ _ _ h0), fun e f a hT => ⟨_, .mk _, rfl, fun w => by simp [execOp, ho, q1 hT, q2 hT, V.tr, S.tr, eqGuard, binOp, Op.intDiv, hm0, vl_lt (wrap_lt k1 _)]⟩⟩
    case rem =>
      obtain rfl : k1 = k2 := kEq_t hk
      rcases onB_some (show onB (eqF m 0) none _ = some r from hr) with ⟨_, h0⟩ | ⟨h0, _⟩
      · cases h0
      have hm0 : m ≠ 0 := by rw [eqF_eq] at h0; simpa using h0
      exact ⟨.s (.i k1 (n.tmod m)), fun cal h k => (hop2 cal h k).trans (binK_rem _ _ _ _ _ h0), fun e f a hT => ⟨_, .mk _, rfl, fun w => by simp [execOp, ho, q1 hT, q2 hT, V.tr, S.tr, eqGuard, binOp, Op.intDiv, hm0, vl_lt (tmod_lt n m ln)]⟩⟩
    case and =>
      obtain rfl : k1 = k2 := kEq_t hk
      exact ⟨.s (.i k1 (bits .and k1 n m)), fun cal h k => (hop2 cal h k).trans (binK_and _ _ _ _ _), fun e f a hT => ⟨_, .mk _, rfl, fun w => by simp [execOp, ho, q1 hT, q2 hT, V.tr, S.tr, eqGuard, binOp, intBits_and, vl_lt (bits_lt _ _ _ _)]⟩⟩
    case or =>
      obtain rfl : k1 = k2 := kEq_t hk
      exact ⟨.s (.i k1 (bits .or k1 n m)), fun cal h k => (hop2 cal h k).trans (binK_or _ _ _ _ _), fun e f a hT => ⟨_, .mk _, rfl, fun w => by simp [execOp, ho, q1 hT, q2 hT, V.tr, S.tr, eqGuard, binOp, intBits_or, vl_lt (bits_lt _ _ _ _)]⟩⟩
    case xor =>
      obtain rfl : k1 = k2 := kEq_t hk
      exact ⟨.s (.i k1 (bits .xor k1 n m)), fun cal h k => (hop2 cal h k).trans (binK_xor _ _ _ _ _), fun e f a hT => ⟨_, .mk _, rfl, fun w => by simp [execOp, ho, q1 hT, q2 hT, V.tr, S.tr, eqGuard, binOp, intBits_xor, vl_lt (bits_lt _ _ _ _)]⟩⟩
    case shl =>
      obtain ⟨h0, hr⟩ := onB_t (show onB (leF 0 m) _ none = some r from hr)
      have hm0 : 0 ≤ m := by rw [leF_eq] at h0; simpa using h0
      exact ⟨.s (.i k1 (k1.wrap (n * 2 ^ min m.toNat k1.bits))), fun cal h k => (hop2 cal h k).trans (binK_shl _ _ _ _ _ h0), fun e f a hT => ⟨_, .mk _, rfl, fun w => by simp [execOp, ho, q1 hT, q2 hT, V.tr, S.tr, eqGuard, binOp, shift_shl_any _ _ _ _ hm0, vl_lt (wrap_lt k1 _)]⟩⟩
    case shr =>
      obtain ⟨h0, hr⟩ := onB_t (show onB (leF 0 m) _ none = some r from hr)
      have hm0 : 0 ≤ m := by rw [leF_eq] at h0; simpa using h0
      have hp : (0 : Int) < 2 ^ min m.toNat k1.bits := Int.pow_pos (by omega)
      have hd : Int.fdiv n (2 ^ min m.toNat k1.bits) = n / 2 ^ min m.toNat k1.bits := Int.fdiv_eq_ediv_of_nonneg _ (Int.le_of_lt hp)
      have hl := fdiv_le n _ hp ln
      rw [hd] at hl
      exact ⟨.s (.i k1 (n / 2 ^ min m.toNat k1.bits)), fun cal h k => (hop2 cal h k).trans (binK_shr _ _ _ _ _ h0), fun e f a hT => ⟨_, .mk _, rfl, fun w => by simp [execOp, ho, q1 hT, q2 hT, V.tr, S.tr, eqGuard, binOp, shift_shr_any _ _ _ _ hm0, vl_lt hl]⟩⟩
    case andNot =>
      obtain rfl : k1 = k2 := kEq_t hk
      exact ⟨.s (.i k1 (bits .andNot k1 n m)), fun cal h k => (hop2 cal h k).trans (binK_andNot _ _ _ _ _), fun e f a hT => ⟨_, .mk _, rfl, fun w => by simp [execOp, ho, q1 hT, q2 hT, V.tr, S.tr, eqGuard, binOp, intBits_andNot, vl_lt (bits_lt _ _ _ _)]⟩⟩
    case eql =>
      obtain rfl : k1 = k2 := kEq_t hk
      exact ⟨.s (.b (n == m)), fun cal h k => (hop2 cal h k).trans (binK_eql _ _ _ _ _), fun e f a hT => ⟨_, .mk _, rfl, fun w => by simp [execOp, ho, q1 hT, q2 hT, V.tr, S.tr, eqGuard, binOp, Op.intCmp]⟩⟩
    case neq =>
      obtain rfl : k1 = k2 := kEq_t hk
      exact ⟨.s (.b (n != m)), fun cal h k => (hop2 cal h k).trans (binK_neq _ _ _ _ _), fun e f a hT => ⟨_, .mk _, rfl, fun w => by simp [execOp, ho, q1 hT, q2 hT, V.tr, S.tr, eqGuard, binOp, Op.intCmp]⟩⟩
    case lss =>
      obtain rfl : k1 = k2 := kEq_t hk
      exact ⟨.s (.b (decide (n < m))), fun cal h k => (hop2 cal h k).trans (binK_lss _ _ _ _ _), fun e f a hT => ⟨_, .mk _, rfl, fun w => by simp [execOp, ho, q1 hT, q2 hT, V.tr, S.tr, eqGuard, binOp, Op.intCmp]⟩⟩
    case leq =>
      obtain rfl : k1 = k2 := kEq_t hk
      exact ⟨.s (.b (decide (n ≤ m))), fun cal h k => (hop2 cal h k).trans (binK_leq _ _ _ _ _), fun e f a hT => ⟨_, .mk _, rfl, fun w => by simp [execOp, ho, q1 hT, q2 hT, V.tr, S.tr, eqGuard, binOp, Op.intCmp]⟩⟩
    case gtr =>
      obtain rfl : k1 = k2 := kEq_t hk
      exact ⟨.s (.b (decide (n > m))), fun cal h k => (hop2 cal h k).trans (binK_gtr _ _ _ _ _), fun e f a hT => ⟨_, .mk _, rfl, fun w => by simp [execOp, ho, q1 hT, q2 hT, V.tr, S.tr, eqGuard, binOp, Op.intCmp]⟩⟩
    case geq =>
      obtain rfl : k1 = k2 := kEq_t hk
      exact ⟨.s (.b (decide (n ≥ m))), fun cal h k => (hop2 cal h k).trans (binK_geq _ _ _ _ _), fun e f a hT => ⟨_, .mk _, rfl, fun w => by simp [execOp, ho, q1 hT, q2 hT, V.tr, S.tr, eqGuard, binOp, Op.intCmp]⟩⟩
  · have hop2 : ∀ cal h k, exJ (.bin op x' y') cal t h k = onB (and (eqB op) (and (kEq k1 k2) (and (kn n) (eqF n m)))) (k (.s (.b true)) h) (onB (and (adB op) (and (kEq k1 .i64) (and (kEq k2 .i64) (or (Bool.not (kn n)) (Bool.not (kn m)))))) (k (.s (.i .i64 unkN)) h) (syV op k1 k2 n m fun v => k v h)) := fun cal h k => by
      rw [hop]
      show onB (and (reB n) (reB m)) _ _ = _
      rw [hb]; rfl
    rcases onB_some hr with ⟨hb, hr⟩ | ⟨hb2, hr⟩
    · obtain ⟨b1, b2⟩ := and_t hb
      obtain ⟨g2, g3⟩ := and_t b2
      obtain ⟨g4, g5⟩ := and_t g3
      obtain rfl := kEq_t g2
      have : n = m := by rw [eqF_eq] at g5; simpa using g5
      subst this
      cases op <;> first | (cases b1; done) | skip
      refine ⟨.s (.b true), fun cal h k => by rw [hop2, hb]; rfl, fun e f a hT => ⟨_, .mk _, rfl, fun w => ?_⟩⟩
      have q1 := (ev_eq hT hSx hx hn (by simp) g4).1
      have q2 := (ev_eq hT hSy hy hm (by simp) g4).1
      simp [execOp, ho, q1, q2, V.tr, S.tr, eqGuard, binOp, Op.intCmp]
    · rcases onB_or hr with ⟨hb3, hr⟩ | ⟨hb3, hr⟩
      rotate_left
      · exact bin_sy ho hx hy hn hm (fun cal h k => by rw [hop2, hb2]; show onB (and (adB op) _) _ _ = _; rw [hb3]; rfl) hr
      obtain ⟨b1, b2⟩ := and_t hb3
      obtain ⟨b2, b3⟩ := and_t b2
      obtain ⟨b3, b4⟩ := and_t b3
      obtain rfl := kEq_t b2
      obtain rfl := kEq_t b3
      refine ⟨.s (.i .i64 unkN), fun cal h k => by rw [hop2, hb2]; show onB (and (adB op) _) _ _ = _; rw [hb3]; rfl, fun e f a hT => ?_⟩
      obtain ⟨n1, q1⟩ := ev_int hT hSx hx hn
      obtain ⟨m1, q2⟩ := ev_int hT hSy hy hm
      cases op <;> first | (cases b1; done) | skip
      · exact ⟨_, .inr (.inr (.inl ⟨rfl, _, rfl⟩)), rfl, fun w => by simp [execOp, ho, q1, q2, eqGuard, binOp, Op.intArith]; rfl⟩
      · exact ⟨_, .inr (.inr (.inl ⟨rfl, _, rfl⟩)), rfl, fun w => by simp [execOp, ho, q1, q2, eqGuard, binOp, Op.intArith]; rfl⟩
theorem pure_eqb {q : Bool} {T U : TypeId} {x y : Operand} {x' y' : O} (ho : o.op = .binOp (if q then .neq else .eql) T x y U) (hu : P.underlying T = some .bool) (hx : compX Y x = some x') (hy : compX Y y = some y') : Pure Y P o (.eqb q x' y') := by
  intro cal t h k r hr
  obtain ⟨b, hb, hr⟩ := asB_some (show asB (ev t x') _ = some r from hr)
  obtain ⟨c, hc, hr⟩ := asB_some (show asB (ev t y') _ = some r from hr)
  refine ⟨.s (.b (if q then !(b == c) else b == c)), fun cal h k => ?_, fun e f a hT => ?_⟩
  · show asB (ev t x') _ = _
    rw [hb]; show asB (ev t y') _ = _
    rw [hc]; cases q <;> cases b <;> cases c <;> rfl
  have h1 := (ev_eq hT (x := x) (by simp [ho, Op.operands]) hx hb (by simp) rfl).1
  have h2 := (ev_eq hT (x := y) (by simp [ho, Op.operands]) hy hc (by simp) rfl).1
  refine ⟨_, .mk _, rfl, fun w => ?_⟩
  cases q
  · simp [execOp, ho, h1, h2, V.tr, S.tr, eqGuard_at_bool, run_eql_bool, hu]
  · simp [execOp, ho, h1, h2, V.tr, S.tr, eqGuard_at_bool, run_neq_bool, hu]
theorem equalIn_sl {T e : TypeId} (hu : P.underlying T = some (.slice e)) (w : World) (d : Nat) (b : Option Addr) (n c : Nat) :
    (Op.equalIn (d + 1) T (.slice b n c) (.slice none 0 0)).run P w = .ok b.isNone w := by
  cases b <;> simp [Op.equalIn, run_underlying hu]
theorem run_eql_sl {T e : TypeId} (hu : P.underlying T = some (.slice e)) (w : World) (b : Option Addr) (n c : Nat) :
    (binOp .eql T (.slice b n c) (.slice none 0 0)).run P w = .ok (.bool b.isNone) w := by
  have h := equalIn_sl hu w 9999 b n c
  show ((Op.equalIn 10000 T (.slice b n c) (.slice none 0 0)) >>= fun r => Pure.pure (Value.bool r)).run P w = _
  rw [Sem.run_bind, h]; rfl
theorem run_neq_sl {T e : TypeId} (hu : P.underlying T = some (.slice e)) (w : World) (b : Option Addr) (n c : Nat) :
    (binOp .neq T (.slice b n c) (.slice none 0 0)).run P w = .ok (.bool (!b.isNone)) w := by
  have h := equalIn_sl hu w 9999 b n c
  show ((Op.equalIn 10000 T (.slice b n c) (.slice none 0 0)) >>= fun r => Pure.pure (Value.bool (!r))).run P w = _
  rw [Sem.run_bind, h]; rfl
theorem eqn_out {kd : Nat} {q : Bool} {x' : O} {cal : Cal} {t : T} {h : Hp} {k : KV} {r : RES} (hr : exJ (.eqn kd q x') cal t h k = some r) :
    ∃ s b, ev t x' = .s s ∧ nilB kd s = some b ∧ ∀ cal h k, exJ (.eqn kd q x') cal t h k = k (.s (.b (if q then !b else b))) h := by
  obtain ⟨s, hs, hr⟩ := asS_some (show asS (ev t x') _ = some r from hr)
  obtain ⟨b, hb, hr⟩ := onO_some (show onO (nilB kd s) _ = some r from hr)
  refine ⟨s, b, hs, hb, fun cal h k => ?_⟩
  show asS (ev t x') _ = _
  rw [hs]; show onO (nilB kd s) _ = _
  rw [hb]; cases q <;> cases b <;> rfl
theorem nilK_some {y : Operand} {n : Nat} (h : nilK y = some n) : (y = .const (.pointer none) ∧ n = 0) ∨ (y = .const (.slice none 0 0) ∧ n = 1) ∨ (y = .const (.map none) ∧ n = 2) ∨ (y = .const .nilFunc ∧ n = 3) := by
  unfold nilK at h
  split at h <;> cases h <;> simp
theorem pure_eqn_ptr {q : Bool} {T U e : TypeId} {x y : Operand} {x' : O} (ho : o.op = .binOp (if q then .neq else .eql) T x y U)
    (hu : P.underlying T = some (.pointer e)) (hn : nilK y = some 0) (hx : compX Y x = some x') : Pure Y P o (.eqn 0 q x') := by
  intro cal t h k r hr
  obtain ⟨s, b, hs, hb, hk⟩ := eqn_out hr
  refine ⟨_, hk, fun en f a hT => ⟨_, .mk _, rfl, fun w => ?_⟩⟩
  have hy : y = .const (.pointer none) := by rcases nilK_some hn with ⟨h, _⟩ | ⟨_, h⟩ | ⟨_, h⟩ | ⟨_, h⟩ <;> first | exact h | cases h
  have hp : P.underlying T = some (.pointer (P.pointee T)) := by simp [Program.pointee, hu]
  have hyv : a.eval (.const (.pointer none)) = .pointer none := rfl
  cases s <;> first | (cases hb; done) | skip
  all_goals
    cases hb
    have hv := (ev_eq hT (x := x) (by simp [ho, Op.operands]) hx hs (by simp) rfl).1
    simp only [V.tr, S.tr] at hv
    cases q <;> simp [execOp, ho, hv, hy, hyv, V.tr, S.tr, eqGuard_at_pointer, run_eql_pointer_nil _ _ _ hp, run_neq_pointer_nil _ _ _ hp]
theorem pure_eqn_sl {q : Bool} {T U e : TypeId} {x y : Operand} {x' : O} (ho : o.op = .binOp (if q then .neq else .eql) T x y U)
    (hu : P.underlying T = some (.slice e)) (hn : nilK y = some 1) (hx : compX Y x = some x') : Pure Y P o (.eqn 1 q x') := by
  intro cal t h k r hr
  obtain ⟨s, b, hs, hb, hk⟩ := eqn_out hr
  refine ⟨_, hk, fun en f a hT => ⟨_, .mk _, rfl, fun w => ?_⟩⟩
  have hy : y = .const (.slice none 0 0) := by rcases nilK_some hn with ⟨_, h⟩ | ⟨h, _⟩ | ⟨_, h⟩ | ⟨_, h⟩ <;> first | exact h | cases h
  have hyv : a.eval (.const (.slice none 0 0)) = .slice none 0 0 := rfl
  cases s <;> first | (cases hb; done) | skip
  all_goals
    cases hb
    have hv := (ev_eq hT (x := x) (by simp [ho, Op.operands]) hx hs (by simp) rfl).1
    simp only [V.tr, S.tr] at hv
    cases q <;> simp [execOp, ho, hv, hy, hyv, V.tr, S.tr, eqGuard_at_slice, run_eql_sl hu, run_neq_sl hu]
theorem equalIn_mp {T kt et : TypeId} (hu : P.underlying T = some (.map kt et)) (w : World) (d : Nat) (b : Option Nat) : (Op.equalIn (d + 1) T (.map b) (.map none)).run P w = .ok b.isNone w := by cases b <;> simp [Op.equalIn, run_underlying hu]
theorem run_eql_mp {T kt et : TypeId} (hu : P.underlying T = some (.map kt et)) (w : World) (b : Option Nat) :
    (binOp .eql T (.map b) (.map none)).run P w = .ok (.bool b.isNone) w ∧ (binOp .neq T (.map b) (.map none)).run P w = .ok (.bool (!b.isNone)) w := by
  have h := equalIn_mp hu w 9999 b
  constructor
  · show ((Op.equalIn 10000 T (.map b) (.map none)) >>= fun r => Pure.pure (Value.bool r)).run P w = _
    rw [Sem.run_bind, h]; rfl
  · show ((Op.equalIn 10000 T (.map b) (.map none)) >>= fun r => Pure.pure (Value.bool (!r))).run P w = _
    rw [Sem.run_bind, h]; rfl
theorem pure_eqn_mp {q : Bool} {T U kt et : TypeId} {x y : Operand} {x' : O} (ho : o.op = .binOp (if q then .neq else .eql) T x y U)
    (hu : P.underlying T = some (.map kt et)) (hn : nilK y = some 2) (hx : compX Y x = some x') : Pure Y P o (.eqn 2 q x') := by
  intro cal t h k r hr
  obtain ⟨s, b, hs, hb, hk⟩ := eqn_out hr
  refine ⟨_, hk, fun en f a hT => ⟨_, .mk _, rfl, fun w => ?_⟩⟩
  have hy : y = .const (.map none) := by rcases nilK_some hn with ⟨_, h⟩ | ⟨_, h⟩ | ⟨h, _⟩ | ⟨_, h⟩ <;> first | exact h | cases h
  have hyv : a.eval (.const (.map none)) = .map none := rfl
  cases s <;> first | (cases hb; done) | skip
  all_goals
    cases hb
    have hv := (ev_eq hT (x := x) (by simp [ho, Op.operands]) hx hs (by simp) rfl).1
    simp only [V.tr, S.tr] at hv
    cases q <;> simp [execOp, ho, hv, hy, hyv, V.tr, S.tr, eqGuard_at_map, (run_eql_mp hu _ _).1, (run_eql_mp hu _ _).2]
theorem equalIn_fn {T : TypeId} {a1 : Array TypeId} {a2 : Array TypeId} {a3 : Bool} (hu : P.underlying T = some (.func a1 a2 a3)) (w : World) (d : Nat) {v : Value} {b : Bool} (hv : (v = .nilFunc ∧ b = true) ∨ (b = false ∧ ∃ g a c, v = .func g a c)) : (Op.equalIn (d + 1) T v .nilFunc).run P w = .ok b w := by
  rcases hv with ⟨rfl, rfl⟩ | ⟨rfl, g, a, c, rfl⟩ <;> simp [Op.equalIn, run_underlying hu]
theorem run_eql_fn {T : TypeId} {a1 : Array TypeId} {a2 : Array TypeId} {a3 : Bool} (hu : P.underlying T = some (.func a1 a2 a3)) (w : World) {v : Value} {b : Bool} (hv : (v = .nilFunc ∧ b = true) ∨ (b = false ∧ ∃ g a c, v = .func g a c)) :
    (binOp .eql T v .nilFunc).run P w = .ok (.bool b) w ∧ (binOp .neq T v .nilFunc).run P w = .ok (.bool (!b)) w := by
  have h := equalIn_fn hu w 9999 hv
  rcases hv with ⟨rfl, rfl⟩ | ⟨rfl, g, a, c, rfl⟩
  · constructor
    · show ((Op.equalIn 10000 T .nilFunc .nilFunc) >>= fun r => Pure.pure (Value.bool r)).run P w = _
      rw [Sem.run_bind, h]; rfl
    · show ((Op.equalIn 10000 T .nilFunc .nilFunc) >>= fun r => Pure.pure (Value.bool (!r))).run P w = _
      rw [Sem.run_bind, h]; rfl
  · constructor
    · show ((Op.equalIn 10000 T (.func g a c) .nilFunc) >>= fun r => Pure.pure (Value.bool r)).run P w = _
      rw [Sem.run_bind, h]; rfl
    · show ((Op.equalIn 10000 T (.func g a c) .nilFunc) >>= fun r => Pure.pure (Value.bool (!r))).run P w = _
      rw [Sem.run_bind, h]; rfl
theorem pure_eqn_fn {q : Bool} {T U : TypeId} {a1 : Array TypeId} {a2 : Array TypeId} {a3 : Bool} {x y : Operand} {x' : O} (ho : o.op = .binOp (if q then .neq else .eql) T x y U)
    (hu : P.underlying T = some (.func a1 a2 a3)) (hn : nilK y = some 3) (hx : compX Y x = some x') : Pure Y P o (.eqn 3 q x') := by
  intro cal t h k r hr
  obtain ⟨s, b, hs, hb, hk⟩ := eqn_out hr
  refine ⟨_, hk, fun en f a hT => ⟨_, .mk _, rfl, fun w => ?_⟩⟩
  have hy : y = .const .nilFunc := by rcases nilK_some hn with ⟨_, h⟩ | ⟨_, h⟩ | ⟨_, h⟩ | ⟨h, _⟩ <;> first | exact h | cases h
  have hyv : a.eval (.const .nilFunc) = .nilFunc := rfl
  have key : ∀ v, a.eval x = v → ((v = .nilFunc ∧ b = true) ∨ (b = false ∧ ∃ g a c, v = .func g a c)) → (execOp a.eval o).run P w = .ok (.value (V.tr en (.s (.b (if q then !b else b))))) w := fun v h1 h2 => by
    have := run_eql_fn hu w h2
    have hg : eqGuard (if q then .neq else .eql) T x y v .nilFunc = Pure.pure () := by
      rcases h2 with ⟨rfl, _⟩ | ⟨_, g, a, c, rfl⟩
      · exact eqGuard_at_nilFunc ..
      · exact eqGuard_at_func ..
    cases q
    · simp only [Bool.false_eq_true, if_false] at ho hg ⊢
      simp [execOp, ho, h1, hy, hyv, V.tr, S.tr, this.1, (hy ▸ hg : eqGuard .eql T x (.const .nilFunc) v .nilFunc = Pure.pure ())]
    · simp only [if_true] at ho hg ⊢
      simp [execOp, ho, h1, hy, hyv, V.tr, S.tr, this.2, (hy ▸ hg : eqGuard .neq T x (.const .nilFunc) v .nilFunc = Pure.pure ())]
  cases s <;> first | (cases hb; done) | skip
  all_goals
    cases hb
    have hv := (ev_eq hT (x := x) (by simp [ho, Op.operands]) hx hs (by simp) rfl).1
    simp only [V.tr, S.tr] at hv
    refine key _ hv ?_
    first | exact .inl ⟨rfl, rfl⟩ | exact .inr ⟨rfl, _, _, _, rfl⟩
end
end Go.E
