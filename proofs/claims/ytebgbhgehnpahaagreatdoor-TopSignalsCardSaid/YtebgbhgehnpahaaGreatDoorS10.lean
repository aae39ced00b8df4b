/- A part of the proof of the claim that the last text of this folder states. -/
import Derived.OrdersIn
import Derived.Maps.RangeRun
import Derived.Test.YtebgbhgehnpahaaGreatDoorS09
namespace Go.E
set_option linter.all false
def J.calls : J → Bool
  | .call .. | .callv .. | .nxt _ | .dfr .. => true
  | _ => false
inductive Cls (Y : Lay) (P : Program) (o : Oper) (op : J) : Prop where
  | p (h : Pure Y P o op) (k : op.kind = 0)
  | l (h : Looks Y P o op) (k : op.kind = 1)
  | m (h : Makes Y P o op) (k : op.kind = 2)
  | a (h : Acts Y P o op) (k : op.kind = 3) (c : op.calls = false)
  | c (k : op.kind = 3) (c : op.calls = true)
section
variable {Y : Lay} {P : Program} {o : Oper}
theorem Cls.acts {op : J} (H : Cls Y P o op) (hc : op.calls = false) : Acts Y P o op := by
  cases H with
  | p h k => exact h.looks.acts
  | l h k => exact h.acts
  | m h k => exact h.acts
  | a h k c => exact h
  | c k c => rw [hc] at c; cases c
theorem eqn_cls {b : BinOp} {T U : TypeId} {x y : Operand} {x' y' : O} {op : J} (q : Bool) (ho : o.op = .binOp (if q then .neq else .eql) T x y U) (hx : compX Y x = some x') (hy : compX Y y = some y')
    (h : compE P q T y x' y' = some op) : Cls Y P o op := by
  unfold compE at h
  split at h
  · rename_i fs hu
    split at h
    · rename_i l hl
      split at h
      · cases h
      · rename_i hg; cases h; exact .p (pure_eqa ho (.inl ⟨_, hu⟩) hl (by simpa using hg) hx hy) rfl
    · cases h
  · rename_i n e hu
    split at h
    · rename_i l hl
      split at h
      · cases h
      · rename_i hg; cases h; exact .p (pure_eqa ho (.inr ⟨_, _, hu⟩) hl (by simpa using hg) hx hy) rfl
    · cases h
  · rename_i e hu
    split at h
    · rename_i hn; cases h; exact .p (pure_eqn_ptr ho hu hn hx) rfl
    · cases h
  · rename_i e hu
    split at h
    · rename_i hn; cases h; exact .p (pure_eqn_sl ho hu hn hx) rfl
    · cases h
  · rename_i k e hu
    split at h
    · rename_i hn; cases h; exact .p (pure_eqn_mp ho hu hn hx) rfl
    · cases h
  · rename_i a1 a2 a3 hu
    split at h
    · rename_i hn; cases h; exact .p (pure_eqn_fn ho hu hn hx) rfl
    · cases h
  · rename_i hu; cases h; exact .p (pure_eqb ho hu hx hy) rfl
  · cases h; exact .p (pure_bin ho hx hy) rfl
  · cases h
theorem comp_cls {op : J} (hc : compI Y P o = some op) : Cls Y P o op := by
  unfold compI at hc
  split at hc
  · rename_i x ho
    obtain ⟨y, hx, rfl⟩ := Option.map_eq_some_iff.1 hc
    exact .p (pure_mv (.inl ho) hx) rfl
  · rename_i x ho
    obtain ⟨y, hx, rfl⟩ := Option.map_eq_some_iff.1 hc
    exact .p (pure_mv (.inr ho) hx) rfl
  · rename_i c x y ho
    split at hc
    · rename_i c' x' y' h1 h2 h3; cases hc; exact .p (pure_pick ho h1 h2 h3) rfl
    · cases hc
  · rename_i T ho
    obtain ⟨z, hz, rfl⟩ := Option.map_eq_some_iff.1 hc
    exact .m (makes_new ho hz) rfl
  · rename_i T x ho
    obtain ⟨y, hx, rfl⟩ := Option.map_eq_some_iff.1 hc
    exact .m (makes_box ho hx) rfl
  · rename_i T parts ho
    split at hc
    · rename_i z fs hz hu
      split at hc
      · rename_i hall
        obtain ⟨qs, hq, rfl⟩ := Option.map_eq_some_iff.1 hc
        exact .p (pure_build_struct ho hz hu hall hq) rfl
      · cases hc
    · rename_i z n e hz hu
      split at hc
      · rename_i i hi
        obtain ⟨qs, hq, rfl⟩ := Option.map_eq_some_iff.1 hc
        exact .p (pure_build_array ho hz hu hi hq) rfl
      · cases hc
    · cases hc
  · rename_i T n parts ho
    split at hc
    · rename_i e hu
      split at hc
      · rename_i i z hi hz
        split at hc
        · rename_i hcond
          obtain ⟨qs, hq, rfl⟩ := Option.map_eq_some_iff.1 hc
          exact .m (makes_bsl ho hu hi hz hcond.1 hcond.2 hq) rfl
        · cases hc
      · cases hc
    · cases hc
  · rename_i T x ho
    split at hc
    · rename_i y hx hn; cases hc; exact .l (looks_ld ho hn hx) rfl
    · rename_i y n hx hn; cases hc; exact .l (looks_ldn ho hn hx) rfl
    · cases hc
  · rename_i T x y ho
    split at hc
    · rename_i x' y' i hx hy hi; cases hc; exact .a (acts_st ho hi hx hy) rfl rfl
    · cases hc
  · rename_i x ho
    obtain ⟨y, hx, rfl⟩ := Option.map_eq_some_iff.1 hc
    exact .p (pure_nil ho hx) rfl
  · rename_i b T x y U ho
    split at hc
    · rename_i x' y' hx hy
      split at hc
      · exact eqn_cls (b := .eql) false ho hx hy hc
      · exact eqn_cls (b := .eql) true ho hx hy hc
      · cases hc; exact .p (pure_bin ho hx hy) rfl
    · cases hc
  · rename_i u T x ho
    obtain ⟨y, hx, rfl⟩ := Option.map_eq_some_iff.1 hc
    exact .p (pure_un ho hx) rfl
  · rename_i src dst x ho
    split at hc
    · rename_i d k y h1 h2 h3; cases hc; exact .p (pure_conv ho h1 h2 h3) rfl
    · cases hc
  · rename_i f first caps ho
    split at hc
    · rename_i h2
      obtain ⟨ys, hx, rfl⟩ := Option.map_eq_some_iff.1 hc
      exact .p (pure_mkf ho h2 hx) rfl
    · rename_i x h1 h2
      obtain ⟨y, hx, rfl⟩ := Option.map_eq_some_iff.1 hc
      exact .p (pure_mkm ho h1 h2 hx) rfl
    · cases hc
  · rename_i T n c ho
    split at hc
    · rename_i e n' c' hu hn hc'
      split at hc
      · rename_i i z hi hz
        split at hc
        · cases hc
        · rename_i hsz; cases hc; exact .m (makes_mks ho hu hi hz hsz hn hc') rfl
      · cases hc
    · cases hc
  · rename_i T x lo hi mx ho
    split at hc
    · cases hc
    · rename_i hmh
      split at hc
      · rename_i x' lo' hi' mx' h1 h2 h3 h4
        have hmh' : mx.isSome = true → hi.isSome = true := fun h => by
          rw [not_and] at hmh
          have := hmh h
          cases hi <;> simp at this ⊢
        split at hc
        · rename_i e hu
          obtain ⟨k, hk, rfl⟩ := Option.map_eq_some_iff.1 hc
          exact .p (pure_slc (arr := none) ho hu hk h1 h2 h3 h4 hmh') rfl
        · rename_i n e hu
          split at hc
          · rename_i hG
            obtain ⟨k, hk, rfl⟩ := Option.map_eq_some_iff.1 hc
            exact .p (pure_slc (arr := some n) ho ⟨hu, hG⟩ hk h1 h2 h3 h4 hmh') rfl
          · cases hc
        · cases hc
      · cases hc
  · rename_i T x f ho
    split at hc
    · rename_i fs y hu hx
      split at hc
      · rename_i fl hf
        split at hc
        · rename_i i hi
          split at hc
          · cases hc
          · rename_i hsz; cases hc; exact .p (pure_fa ho hu hf hi hsz hx) rfl
        · cases hc
      · cases hc
    · cases hc
  · rename_i T x f ho
    split at hc
    · rename_i fs y hu hx
      split at hc
      · rename_i fl hf
        obtain ⟨n, hn, rfl⟩ := Option.map_eq_some_iff.1 hc
        exact .p (pure_fld ho hu hf hn hx) rfl
      · cases hc
    · cases hc
  · rename_i T x i ho
    split at hc
    · rename_i n e x' i' hu hx hi
      obtain ⟨k, hk, rfl⟩ := Option.map_eq_some_iff.1 hc
      exact .p (pure_ia (arr := some n) ho hu hk hx hi) rfl
    · rename_i e x' i' hu hx hi
      obtain ⟨k, hk, rfl⟩ := Option.map_eq_some_iff.1 hc
      exact .p (pure_ia (arr := none) ho hu hk hx hi) rfl
    · cases hc
  · rename_i T x i ho
    split at hc
    · rename_i n e x' i' hu hx hi
      split at hc
      · rename_i k m hk hm; cases hc; exact .p (pure_ix ho hu hk hm hx hi) rfl
      · cases hc
    · rename_i x' i' hu hx hi; cases hc; exact .p (pure_ixs ho hu hx hi) rfl
    · cases hc
  · rename_i x j ho
    obtain ⟨y, hx, rfl⟩ := Option.map_eq_some_iff.1 hc
    exact .p (pure_ext ho hx) rfl
  · rename_i c ho
    split at hc
    · split at hc
      · split at hc
        · obtain ⟨ys, hx, rfl⟩ := Option.map_eq_some_iff.1 hc
          exact .c rfl rfl
        · cases hc
      · cases hc
    · obtain ⟨ys, hx, rfl⟩ := Option.map_eq_some_iff.1 hc
      exact .c rfl rfl
    · rename_i hcal
      split at hc
      · rename_i x T ha hat
        split at hc
        · rename_i e hu
          obtain ⟨y, hx, rfl⟩ := Option.map_eq_some_iff.1 hc
          exact .p (pure_len ho hcal ha hat hu hx) rfl
        · rename_i kt et hu
          obtain ⟨y, hx, rfl⟩ := Option.map_eq_some_iff.1 hc
          exact .l (looks_lenm ho hcal ha hat hu hx) rfl
        · cases hc
      · cases hc
    · rename_i hcal
      split at hc
      · rename_i x y T U ha hat
        split at hc
        · rename_i e f hT hU
          split at hc
          · rename_i i z x' y' hi hz hx hy
            split at hc
            · cases hc
            · rename_i hb; cases hc; exact .a (acts_app ho hcal ha hat hT hU hi hz hb hx hy) rfl rfl
          · cases hc
        · cases hc
      · cases hc
    · rename_i hcal
      split at hc
      · rename_i x y T U ha hat
        split at hc
        · rename_i e hu
          split at hc
          · rename_i i x' y' hi hx hy; cases hc; exact .a (acts_cpy ho hcal ha hat hu hi hx hy) rfl rfl
          · cases hc
        · cases hc
      · cases hc
    · rename_i hcal
      split at hc
      · rename_i x y ha
        split at hc
        · rename_i x' y' hx hy; cases hc; exact .p (pure_mx (q := false) ho hcal ha hx hy) rfl
        · cases hc
      · cases hc
    · rename_i hcal
      split at hc
      · rename_i x y ha
        split at hc
        · rename_i x' y' hx hy; cases hc; exact .p (pure_mx (q := true) ho hcal ha hx hy) rfl
        · cases hc
      · cases hc
    · cases hc
  · rename_i T x ho
    split at hc
    · rename_i n e hu
      obtain ⟨y, hx, rfl⟩ := Option.map_eq_some_iff.1 hc
      exact .p (pure_arr ho hu hx) rfl
    · cases hc
  · rename_i T rs ho
    split at hc
    · cases hc; exact .m (makes_mkmap ho) rfl
    · cases hc
  · rename_i T m key ok ho
    split at hc
    · rename_i kt et m' k' hu hm hkey
      split at hc
      · rename_i z hz
        obtain ⟨ks, hk, rfl⟩ := Option.map_eq_some_iff.1 hc
        exact .l (looks_lk ho hu hz hk hm hkey) rfl
      · cases hc
    · cases hc
  · rename_i T m key v ho
    split at hc
    · rename_i kt et m' k' v' hu hm hkey hv
      obtain ⟨ks, hk, rfl⟩ := Option.map_eq_some_iff.1 hc
      exact .a (acts_up (.inr ho) hu hk hm hkey hv) rfl rfl
    · cases hc
  · rename_i T m key v ho
    split at hc
    · rename_i kt et m' k' v' hu hm hkey hv
      obtain ⟨ks, hk, rfl⟩ := Option.map_eq_some_iff.1 hc
      exact .a (acts_up (.inl ho) hu hk hm hkey hv) rfl rfl
    · cases hc
  · rename_i T x ho
    split at hc
    · rename_i kt et y hu hx
      cases hc; exact .a (makes_rng ho hu hx) rfl rfl
    · cases hc
  · rename_i x ho
    obtain ⟨y, hx, rfl⟩ := Option.map_eq_some_iff.1 hc
    exact .c rfl rfl
  · rename_i x ho
    obtain ⟨y, hx, rfl⟩ := Option.map_eq_some_iff.1 hc
    exact .l (looks_ent ho hx) rfl
  · rename_i c ho
    split at hc
    · obtain ⟨ys, hx, rfl⟩ := Option.map_eq_some_iff.1 hc
      exact .c rfl rfl
    · cases hc
  · cases hc
end
def wd (ro : Option Nat) : Fence := { Fence.wide with round := ro }
theorem wd_none : wd none = Fence.wide := rfl
theorem wd_fn (ro : Option Nat) (f : FuncId) : (wd ro).fn f := trivial
theorem wd_room (ro : Option Nat) (n : Nat) : (wd ro).room n := fun _ h => by simp [wd, Fence.wide] at h
theorem fenced_wd (P : Program) (ro : Option Nat) : Machine.fenced P (wd ro) = Machine.fenced P Fence.wide := rfl
inductive All2 {α β : Type} (R : α → β → Prop) : List α → List β → Prop where
  | nil : All2 R [] []
  | cons {x : α} {y : β} {l : List α} {m : List β} (h : R x y) (t : All2 R l m) : All2 R (x :: l) (y :: m)
def ret (R : Value → World → Prop) : Ending → World → Prop := fun e w => ∃ v, e = .returned v ∧ R v w
def FnOk (P : Program) (f : FuncId) : Prop := ∃ fn, P.funcs[f]? = some fn ∧ fn.body.isSome = true ∧ (fn.name == "runtime.NumGoroutine") = false
def RoundW (P : Program) (l : Nat) (f : FuncId) (tm : Array Value) (asg body : Code) (w : World) (R : Value → World → Prop) : Prop := ∀ n, RoundIn Fence.wide n P l f tm asg body w (ret R)
def CallS (P : Program) (e : Env) (s : S) (args : Array Value) (w : World) (R : Value → World → Prop) : Prop :=
  match s with
  | .fn f cs => FnOk P f.n ∧ Calls P f.n (args ++ (cs.map fun x => Value.pointer (some (adr e x.1 x.2))).toArray) w (ret R)
  | .fm f q r o => FnOk P f.n ∧ Calls P f.n (#[if q then Value.agg #[.pointer (some (adr e r o))] else .pointer (some (adr e r o))] ++ args) w (ret R)
  | .yl r => ∃ f tm asg body, (Instr.yield (e.σ r).1 args).run P w = .ok (.round (e.σ r).1 f tm asg body) w ∧ RoundW P (e.σ r).1 f tm asg body w R
  | _ => False
theorem ret_mono {R R' : Value → World → Prop} (h : ∀ v w, R v w → R' v w) : ∀ e w, ret R e w → ret R' e w := fun _ _ ⟨v, h1, h2⟩ => ⟨v, h1, h _ _ h2⟩
theorem CallS.mono {P : Program} {e : Env} {s : S} {args : Array Value} {w : World} {R R' : Value → World → Prop} (h : CallS P e s args w R) (hr : ∀ v w, R v w → R' v w) : CallS P e s args w R' := by
  cases s <;> first | exact h.elim | skip
  · exact ⟨h.1, h.2.mono (ret_mono hr)⟩
  · exact ⟨h.1, h.2.mono (ret_mono hr)⟩
  · obtain ⟨f, tm, asg, body, h1, h2⟩ := h
    exact ⟨f, tm, asg, body, h1, fun n => (h2 n).mono (ret_mono hr)⟩
def Iss (e : Env) (vs : List V) (xs : List Value) : Prop := All2 (Isu e) vs xs
def Post (e : Env) (h : Hp) (w : World) (r : RES) (x : Value) (w' : World) : Prop := ∃ e', Step e h w e' r.2 w' ∧ r.2.df = h.df ∧ Isu e' r.1 x ∧ r.1.ok r.2.n.n = true
structure KP where
  k : Nat → Code → DJ → Prop
  ρ : Nat → Int
  β : Nat
def EK (e : Env) (κ : KP) : Prop := e.κ = κ.k ∧ e.ρ = κ.ρ ∧ e.β = κ.β
theorem EK.agr {n : Nat} {e e' : Env} {κ : KP} (H : EK e κ) (A : Agr n e e') : EK e' κ := ⟨A.κ.trans H.1, A.ρ.trans H.2.1, A.β.trans H.2.2⟩
def CalOk (Y : Lay) (P : Program) (κ : KP) (cal : Cal) : Prop :=
  ∀ s args h r, cal s args h = some r → ∀ e w xs, EK e κ → Rel e h w → Gl Y e (Pth.ok h.n.n) → (V.s s).rf (Pth.ok h.n.n) = true → args.all (V.rf (Pth.ok h.n.n)) = true → Iss e args xs → CallS P e s xs.toArray w (Post e h w r)
def Lk (h : Hp) (r r' : RES) : Prop := r' = r ∨ (h.ch = true ∧ r'.1 = r.1 ∧ r'.2.er = r.2.er ∧ r'.2.eq = r.2.eq ∧ ∀ p : Pth, p.n < h.fz → r'.2.at p = r.2.at p)
theorem Lk.refl (h : Hp) (r : RES) : Lk h r r := .inl rfl
theorem Lk.trans {h : Hp} {a b c : RES} (h1 : Lk h a b) (h2 : Lk h b c) : Lk h a c := by
  rcases h1 with rfl | ⟨c1, v1, e1, q1, p1⟩
  · exact h2
  · rcases h2 with rfl | ⟨c2, v2, e2, q2, p2⟩
    · exact .inr ⟨c1, v1, e1, q1, p1⟩
    · exact .inr ⟨c1, v2.trans v1, e2.trans e1, q2.trans q1, fun p hp => (p2 p hp).trans (p1 p hp)⟩
theorem Lk.of {h h' : Hp} {a b : RES} (hf : h'.fz = h.fz) (hc : h'.ch = h.ch) (H : Lk h' a b) : Lk h a b := by
  rcases H with h1 | ⟨c1, v1, e1, q1, p1⟩
  · exact .inl h1
  · exact .inr ⟨hc ▸ c1, v1, e1, q1, fun p hp => p1 p (hf ▸ hp)⟩
theorem Gl.step {Y : Lay} {e e' : Env} {h h' : Hp} {w w' : World} (G : Gl Y e (Pth.ok h.n.n)) (T : Step e h w e' h' w') : Gl Y e' (Pth.ok h'.n.n) := fun g p hg => by
  obtain ⟨h1, h2⟩ := G g p hg
  refine ⟨Pth.ok_mono T.le h1, ?_⟩
  rw [T.agr.σ p (Pth.ok_iff.1 h1)]; exact h2
def markOf (b : Nat) : Deferred := { target := .collected b, args := #[] }
def DfR (P : Program) (e : Env) (n : Nat) (df : List DF) (ds : List Deferred) : Prop := All2 (fun d x => match d with
  | .mk r => r.n < n ∧ x = markOf (e.σ r).1
  | .fn f args => args.all (V.rf (Pth.ok n)) = true ∧ ∃ xs, Iss e args xs ∧ x = { target := .fn (.func f.n) #[], args := xs.toArray }) df ds
theorem Iss.agr {n : Nat} {e e' : Env} (A : Agr n e e') : ∀ {vs : List V} {xs : List Value}, vs.all (V.rf (Pth.ok n)) = true → Iss e vs xs → Iss e' vs xs
  | _, _, _, .nil => All2.nil
  | _, _, h, .cons h1 h2 => by
    simp only [List.all_cons, Bool.and_eq_true] at h
    refine All2.cons ?_ (Iss.agr A h.2 h2)
    rcases h1 with h1 | h1
    · exact .inl h1
    · exact .inr (A.is h.1 h1)
theorem vall_mono {n n' : Nat} (hn : n ≤ n') {vs : List V} (h : vs.all (V.rf (Pth.ok n)) = true) : vs.all (V.rf (Pth.ok n')) = true := by
  simp only [List.all_eq_true] at *
  exact fun x hx => V.ok_mono hn (h x hx)
theorem DfR.agr {P : Program} {n n' : Nat} {e e' : Env} (A : Agr n e e') (hn : n ≤ n') {df : List DF} {ds : List Deferred} (H : DfR P e n df ds) : DfR P e' n' df ds := by
  unfold DfR at *
  induction H with
  | nil => exact All2.nil
  | @cons d x _ _ h1 _ ih =>
    refine All2.cons ?_ ih
    cases d with
    | mk r => exact ⟨by have := h1.1; omega, by rw [A.σ r h1.1]; exact h1.2⟩
    | fn f args =>
      obtain ⟨i1, xs, i2, i3⟩ := h1
      exact ⟨vall_mono hn i1, xs, i2.agr A i1, i3⟩
section
variable {Y : Lay} {P : Program} {κ : KP} {cal : Cal}
def WpJ (Y : Lay) (P : Program) (κ : KP) (cal : Cal) (o : Oper) (op : J) (ro : Option Nat) : Prop :=
  ∀ t h k r, exJ op cal t h k = some r → ∀ n e a w, EK e κ → OT Y e t (Pth.ok h.n.n) a (· ∈ o.op.operands) → Rel e h w → DfR P e h.n.n h.df a.defers → ∀ next Q,
    (∀ v h1 e' w' x ds r', k v h1 = some r' → Lk h r r' → Step e h w e' h1 w' → Isu e' v x → v.ok h1.n.n = true → DfR P e' h1.n.n h1.df ds → next ({ a with defers := ds }.put o.dst x) w') → o.wpIn (wd ro) n P a w next Q
theorem wpIn_run {o : Oper} {ro : Option Nat} {n : Nat} {a : Act} {w w' : World} {nx : Next} {x : Value} {next : Act → World → Prop} {Q : Exit → Act → World → Prop} (hno : ∀ c, o.op ≠ .defer c) (hr : (execOp a.eval o).run P w = .ok nx w') (hx : nx = .value x ∨ (nx = .skip ∧ x = undef))
    (h : next (a.put o.dst x) w') : o.wpIn (wd ro) n P a w next Q := by
  refine ⟨fun f _ => wd_fn ro f, ?_⟩
  rw [Oper.semAt_eq _ _ _ hno, hr]
  rcases hx with rfl | ⟨rfl, rfl⟩
  · rw [Oper.uponIn_value]; exact h
  · rw [Oper.uponIn_skip]; exact h
theorem Acts.wp {o : Oper} {op : J} {ro : Option Nat} (H : Acts Y P o op) (hno : ∀ c, o.op ≠ .defer c) : WpJ Y P κ cal o op ro := by
  intro t h k r hr n e a w _ hT hR hD next Q hn
  obtain ⟨v, h1, i1, i2, i3⟩ := H cal t h k r hr
  obtain ⟨nx, x, w', e', j1, j2, j3, j4, j5⟩ := i3 e a w hT hR
  rw [i1] at hr
  refine wpIn_run hno j1 j2 ?_
  have := hn v h1 e' w' x a.defers r hr (.refl _ _) j3 j4 j5 (by rw [i2]; exact hD.agr j3.agr j3.le)
  exact this
theorem callFunc_run {f : FuncId} (hf : FnOk P f) (args : Array Value) (w : World) : (callFunc f args).run P w = .ok (.enter f args) w := by
  obtain ⟨fn, h1, h2, h3⟩ := hf
  simp only [callFunc, Sem.run_bind, run_program, Result.andThen_ok, h1, h3, Bool.false_eq_true, if_false]
  have : fn.body.isNone = false := by cases hb : fn.body <;> simp [hb] at h2 ⊢
  simp [this]
theorem retK_some {k : KV} {r : Ans} {q : RES} (h : retK k r = some q) : ∃ v h1, r = some (v, h1) ∧ k v h1 = some q := by
  cases r with
  | none => cases h
  | some r => obtain ⟨v, h1⟩ := r; exact ⟨v, h1, rfl, h⟩
theorem args_is {e : Env} {t : T} {f : Pth → Bool} {a : Act} {Z : Operand → Prop} (hT : OT Y e t f a Z) : ∀ {xs : List Operand} {ys : List O}, (∀ x ∈ xs, Z x) → compXs Y xs = some ys → (evs t ys).all (V.rf f) = true ∧ Iss e (evs t ys) (xs.map a.eval)
  | [], ys, _, hx => by simp only [compXs, Option.some.injEq] at hx; subst hx; exact ⟨rfl, All2.nil⟩
  | x :: xs, ys, hZ, hx => by
    simp only [compXs] at hx
    cases h1 : compX Y x with
    | none => simp [h1] at hx
    | some y =>
      cases h2 : compXs Y xs with
      | none => simp [h1, h2] at hx
      | some l =>
        simp only [h1, h2, Option.some.injEq] at hx
        subst hx
        obtain ⟨i1, i2⟩ := args_is hT (fun x hx => hZ x (List.mem_cons_of_mem _ hx)) h2
        obtain ⟨v1, v2⟩ := ev_is hT (hZ x List.mem_cons_self) h1
        refine ⟨?_, All2.cons v2 i2⟩
        show ((ev t y).rf f && (evs t l).all (V.rf f)) = true
        rw [v1, i1]; rfl
theorem call_wp {o : Oper} {c : Call} {x : Operand} {e : Env} {s : S} {a : Act} {w : World} {R : Value → World → Prop} {ro : Option Nat} {n : Nat} {next : Act → World → Prop} {Q : Exit → Act → World → Prop} (ho : o.op = .call c) (hc : c.callee = .value x) (hx : a.eval x = s.tr e)
    (H : CallS P e s (c.args.map a.eval) w R) (hn : ∀ v w', R v w' → next (a.put o.dst v) w') : o.wpIn (wd ro) n P a w next Q := by
  have hno : ∀ c, o.op ≠ .defer c := fun c h => by rw [ho] at h; cases h
  refine ⟨fun f _ => wd_fn ro f, ?_⟩
  rw [Oper.semAt_eq _ _ _ hno]
  have hfn : ∀ f vs, (execOp a.eval o).run P w = .ok (.enter f vs) w → Calls P f vs w (ret R) → o.uponIn (wd ro) n P a next Q ((execOp a.eval o).run P w) := fun f vs h1 h2 => by
    rw [h1, Oper.uponIn_enter]
    refine ⟨fun hd => by simp [wd, Fence.wide] at hd, ?_⟩
    have := (callsIn_wide (n := n - 1)).2 h2
    refine CallsIn.mono (F := wd ro) this ?_
    rintro e w' ⟨v, rfl, hv⟩
    exact hn v w' hv
  cases s <;> first | exact H.elim | skip
  · rename_i f cs
    obtain ⟨hok, hC⟩ := H
    refine hfn f.n _ ?_ hC
    simp only [S.tr] at hx
    simp [execOp, ho, resolve, hc, hx, Deferred.ofValue, invoke, callFunc_run hok]
  · rename_i f q r of
    obtain ⟨hok, hC⟩ := H
    refine hfn f.n _ ?_ hC
    simp only [S.tr] at hx
    simp [execOp, ho, resolve, hc, hx, Deferred.ofValue, invoke, callFunc_run hok]
  · rename_i r
    obtain ⟨f, tm, asg, body, h1, h2⟩ := H
    have hrun : (execOp a.eval o).run P w = .ok (.round (e.σ r).1 f tm asg body) w := by
      simp only [S.tr] at hx
      simp [execOp, ho, resolve, hc, hx, Deferred.ofValue, invoke, h1]
    rw [hrun, Oper.uponIn_round]
    refine ⟨fun hd => by simp [wd, Fence.wide] at hd, ?_⟩
    have := h2 (n - 1)
    refine RoundIn.mono (F := wd ro) this ?_
    rintro e w' ⟨v, rfl, hv⟩
    exact hn v w' hv
theorem call_inv {o : Oper} {f : Pth} {args : List O} (h : compI Y P o = some (.call f args)) : ∃ (c : Call) (g : FuncId), o.op = .call c ∧ c.callee = .value (.func g) ∧ f = Pth.of g ∧ compXs Y c.args.toList = some args := by
  unfold compI at h
  (repeat' split at h) <;> (try (simp only [Option.map_eq_some_iff] at h; obtain ⟨_, hx, h⟩ := h)) <;> (try (cases h; done)) <;> (try cases h)
  all_goals first
    | exact ⟨_, _, by assumption, by assumption, rfl, by assumption⟩
    | (exfalso; unfold compE at h; (repeat' split at h) <;> cases h)
theorem callv_inv {o : Oper} {f : O} {args : List O} (h : compI Y P o = some (.callv f args)) : ∃ (c : Call) (i : Tmp), o.op = .call c ∧ c.callee = .value (.tmp i) ∧ f = .t (Pth.of i) ∧ compXs Y c.args.toList = some args := by
  unfold compI at h
  (repeat' split at h) <;> (try (simp only [Option.map_eq_some_iff] at h; obtain ⟨_, hx, h⟩ := h)) <;> (try (cases h; done)) <;> (try cases h)
  all_goals first
    | exact ⟨_, _, by assumption, by assumption, rfl, by assumption⟩
    | (exfalso; unfold compE at h; (repeat' split at h) <;> cases h)
end
open Go.ChangeMaps (setBlock)
set_option linter.all false
theorem natsB_eq : ∀ {a b : List Nat}, natsB a b = true → a = b
  | [], [], _ => rfl
  | [], _ :: _, h => by cases h
  | _ :: _, [], h => by cases h
  | x :: a, y :: b, h => by
    obtain ⟨h1, h2⟩ := and_t (show and (Nat.beq x y) (natsB a b) = true from h)
    rw [nat_eq h1, natsB_eq h2]
theorem capN_inj : ∀ {a b : List (Pth × Nat)}, capN a = capN b → a = b
  | [], [], _ => rfl
  | [], (r, o) :: _, h => by cases h
  | (r, o) :: _, [], h => by cases h
  | (r, o) :: a, (r', o') :: b, h => by
    have h : r.n :: o :: capN a = r'.n :: o' :: capN b := h
    simp only [List.cons.injEq] at h
    rw [Pth.inj h.1, h.2.1, capN_inj h.2.2]
theorem kdN_inj {a b : IntKind} (h : kdN a = kdN b) : a = b := by cases a <;> cases b <;> first | rfl | (cases h; done)
theorem sEq0_eq {a b : S} (h : sEq0 a b = true) : a = b := by
  obtain ⟨h1, h2⟩ := and_t h
  have hk := natsB_eq h2
  cases a <;> cases b <;> simp only [sKey, List.cons.injEq, reduceCtorEq, and_false, false_and, Nat.reduceEqDiff] at hk <;> try rfl
  · rename_i x y
    cases x <;> cases y <;> first | rfl | (simp at hk; done)
  · rename_i k n k' n'
    obtain ⟨_, hk, hn⟩ := hk
    rw [kdN_inj hk]
    cases n <;> cases n' <;> simp only [inN, List.cons.injEq, Nat.reduceEqDiff, false_and] at hn
    · rw [hn.2.1]
    · rw [hn.2.1]
  · rw [Pth.inj hk.2.1, hk.2.2.1]
  · rw [Pth.inj hk.2.1, hk.2.2.1, hk.2.2.2.1, hk.2.2.2.2.1]
  · cases h1
  · rw [Pth.inj hk.2.1, capN_inj hk.2.2]
  · rename_i q _ _ _ q' _ _
    have : q = q' := by
      have := hk.2.2.1
      cases q <;> cases q' <;> first | rfl | (simp at this; done)
    rw [Pth.inj hk.2.1, this, Pth.inj hk.2.2.2.1, hk.2.2.2.2.1]
  · rw [hk.2]
  · rw [Pth.inj hk.2.1]
  · rw [Pth.inj hk.2.1]
  · rw [Pth.inj hk.2.1, hk.2.2.1]
theorem sEq_eq {a b : S} (h : sEq a b = true) : a = b := by
  cases a <;> first | exact sEq0_eq h | skip
  rename_i k n
  cases b <;> first | (cases h; done) | skip
  rename_i k' n'
  have h : (Bool.rec false (kEq k k') (eqF n n') : Bool) = true := h
  cases c : eqF n n' with
  | false => rw [c] at h; cases h
  | true =>
    rw [c] at h
    rw [eqF_eq] at c
    rw [kEq_t h, of_decide_eq_true c]
theorem ssEq_eq : ∀ {a b : List S}, ssEq a b = true → a = b
  | [], [], _ => rfl
  | [], _ :: _, h => by cases h
  | _ :: _, [], h => by cases h
  | x :: a, y :: b, h => by
    obtain ⟨h1, h2⟩ := and_t (show and (sEq x y) (ssEq a b) = true from h)
    rw [sEq_eq h1, ssEq_eq h2]
theorem cEq_eq {a b : C} (h : cEq a b = true) : a = b := by
  cases a <;> cases b <;> first | (cases h; done) | skip
  · exact congrArg _ (sEq_eq h)
  · exact congrArg _ (ssEq_eq h)
theorem csEq_eq : ∀ {a b : List C}, csEq a b = true → a = b
  | [], [], _ => rfl
  | [], _ :: _, h => by cases h
  | _ :: _, [], h => by cases h
  | x :: a, y :: b, h => by
    obtain ⟨h1, h2⟩ := and_t (show and (cEq x y) (csEq a b) = true from h)
    rw [cEq_eq h1, csEq_eq h2]
theorem vEq_eq {a b : V} (h : vEq a b = true) : a = b := by
  cases a <;> cases b <;> first | (cases h; done) | skip
  · exact congrArg _ (sEq_eq h)
  · exact congrArg _ (ssEq_eq h)
  · exact congrArg _ (csEq_eq h)
theorem wtoEq_eq : ∀ {a b : List (Nat × Int)}, wtoEq a b = true → a = b
  | [], [], _ => rfl
  | [], _ :: _, h => by cases h
  | _ :: _, [], h => by cases h
  | (i, x) :: a, (j, y) :: b, h => by
    obtain ⟨h1, h2⟩ := and_t (show and (and (Nat.beq i j) (eqF x y)) (wtoEq a b) = true from h)
    obtain ⟨h1, h3⟩ := and_t h1
    rw [eqF_eq] at h3
    rw [nat_eq h1, of_decide_eq_true h3, wtoEq_eq h2]
theorem wtEq_eq {a b : Wt} (h : wtEq a b = true) : a = b := by
  obtain ⟨m, o⟩ := a
  obtain ⟨m', o'⟩ := b
  obtain ⟨h1, h2⟩ := and_t (show and (Nat.beq m m') (wtoEq o o') = true from h)
  rw [nat_eq h1, wtoEq_eq h2]
theorem mesEq_eq : ∀ {a b : List ME}, mesEq a b = true → a = b
  | [], [], _ => rfl
  | [], _ :: _, h => by cases h
  | _ :: _, [], h => by cases h
  | (k, v, n) :: a, (k', v', n') :: b, h => by
    obtain ⟨h1, h2⟩ := and_t (show and (and (vEq k k') (and (vEq v v') (Nat.beq n n'))) (mesEq a b) = true from h)
    obtain ⟨h1, h3⟩ := and_t h1
    obtain ⟨h3, h4⟩ := and_t h3
    rw [vEq_eq h1, vEq_eq h3, nat_eq h4, mesEq_eq h2]
theorem oEq_eq {a b : Option Pth} (h : oEq a b = true) : a = b := by
  cases a <;> cases b <;> first | rfl | (cases h; done) | skip
  rw [Pth.inj (nat_eq h)]
theorem bEq_eq {a b : B} (h : bEq a b = true) : a = b := by
  cases a <;> cases b <;> first | rfl | (cases h; done) | skip
  · exact congrArg _ (ssEq_eq h)
  · exact congrArg _ (ssEq_eq h)
  · obtain ⟨h1, h2⟩ := and_t h
    obtain ⟨h2, h3⟩ := and_t h2
    rw [ssEq_eq h1, nat_eq h2, nat_eq h3]
  · obtain ⟨h1, h2⟩ := and_t h
    obtain ⟨h2, h3⟩ := and_t h2
    obtain ⟨h3, h4⟩ := and_t h3
    rw [kEq_t h1, nat_eq h2, nat_eq h3, wtEq_eq h4]
  · obtain ⟨h1, h2⟩ := and_t h
    rw [mesEq_eq h1, nat_eq h2]
  · obtain ⟨h1, h2⟩ := and_t h
    obtain ⟨h2, h3⟩ := and_t h2
    obtain ⟨h3, h4⟩ := and_t h3
    rw [oEq_eq h1, nat_eq h2, natsB_eq h3, nat_eq h4]
  · exact congrArg _ (sEq_eq h)
  · exact congrArg _ (nat_eq h)
theorem n8q_eq {α : Type} {f : Nat → α → α → Bool} {w i : Nat} {a b : N8 α} (h : n8q f w i a b = true) (j : D8) : f (i + j.v * w) (a.g j) (b.g j) = true := by
  obtain ⟨a0, a1, a2, a3, a4, a5, a6, a7⟩ := a
  obtain ⟨b0, b1, b2, b3, b4, b5, b6, b7⟩ := b
  obtain ⟨h0, h⟩ := and_t h
  obtain ⟨h1, h⟩ := and_t h
  obtain ⟨h2, h⟩ := and_t h
  obtain ⟨h3, h⟩ := and_t h
  obtain ⟨h4, h⟩ := and_t h
  obtain ⟨h5, h⟩ := and_t h
  obtain ⟨h6, h7⟩ := and_t h
  cases j with
  | a => show f (i + 0 * w) a0 b0 = true; rw [Nat.zero_mul]; exact h0
  | b => show f (i + 1 * w) a1 b1 = true; rw [Nat.one_mul]; exact h1
  | c => exact h2
  | d => exact h3
  | e => exact h4
  | f => exact h5
  | g => exact h6
  | h => exact h7
theorem pastB_t {m i : Nat} {r : Bool} (h : pastB m i r = true) (hi : i < m) : r = true := by
  have h : (Bool.rec r true (Nat.ble m i) : Bool) = true := h
  cases hb : Nat.ble m i with
  | true => have := nat_le hb; omega
  | false => rw [hb] at h; exact h
theorem eqAt_t {m i : Nat} {x y : B} (h : eqAt m i x y = true) (hi : i < m) : x = y := by
  have h : (Bool.rec (bEq x y) true (Nat.ble m i) : Bool) = true := h
  cases hb : Nat.ble m i with
  | true => have := nat_le hb; omega
  | false => rw [hb] at h; exact bEq_eq h
theorem trEq_eq {m : Nat} {a b : Tr B} (p : Pth) (h : trEq m a b = true) (hp : p.n < m) : gt .dd p a = gt .dd p b := by
  obtain ⟨s, t, o⟩ := a
  obtain ⟨s', t', o'⟩ := b
  obtain ⟨h1, h⟩ := and_t h
  obtain ⟨h2, h3⟩ := and_t h
  have h1 := nat_le h1
  cases p with
  | s i j =>
    have hn := Pth.n_s i j
    have k1 := pastB_t (n8q_eq h2 i) (by omega)
    exact eqAt_t (n8q_eq k1 j) (by omega)
  | t i j k =>
    have hn := Pth.n_t i j k
    have k1 := pastB_t (n8q_eq (pastB_t h3 (by omega)) i) (by omega)
    have k2 := pastB_t (n8q_eq k1 j) (by omega)
    exact eqAt_t (n8q_eq k2 k) (by omega)
  | o n => have := Pth.n_o n; omega
theorem hpEq_eq {m : Nat} {a b : Hp} (h : hpEq m a b = true) : b.er = a.er ∧ b.eq = a.eq ∧ ∀ p : Pth, p.n < m → b.at p = a.at p := by
  obtain ⟨b1, n1, er1, eq1, f1, d1, c1⟩ := a
  obtain ⟨b2, n2, er2, eq2, f2, d2, c2⟩ := b
  obtain ⟨h1, h2⟩ := and_t (show and (Nat.beq er1 er2) (and (Nat.beq eq1 eq2) (trEq m b1 b2)) = true from h)
  obtain ⟨h2, h3⟩ := and_t h2
  exact ⟨(nat_eq h1).symm, (nat_eq h2).symm, fun p hp => (trEq_eq p h3 hp).symm⟩
theorem sameA_out {m : Nat} {r q : RES} {x : Ans} (h : sameA m r x = some q) : q = r ∧ ∃ r', x = some r' ∧ r'.1 = r.1 ∧ r'.2.er = r.2.er ∧ r'.2.eq = r.2.eq ∧ ∀ p : Pth, p.n < m → r'.2.at p = r.2.at p := by
  obtain ⟨r', rfl, h⟩ := onO_some h
  obtain ⟨v, hh⟩ := r
  obtain ⟨v', hh'⟩ := r'
  obtain ⟨h1, h2⟩ := onB_t (show onB (and (vEq v v') (hpEq m hh hh')) (some (v, hh)) none = some q from h)
  obtain ⟨h3, h4⟩ := and_t h1
  exact ⟨(Option.some.inj h2).symm, _, rfl, (vEq_eq h3).symm, hpEq_eq h4⟩
theorem eachM_out {m : Nat} {f : ME → Ans} {r : RES} : ∀ {l : List ME} {q : RES}, eachM m f r l = some q → q = r ∧ ∀ x ∈ l, ∃ r', f x = some r' ∧ r'.1 = r.1 ∧ r'.2.er = r.2.er ∧ r'.2.eq = r.2.eq ∧ ∀ p : Pth, p.n < m → r'.2.at p = r.2.at p
  | [], q, h => ⟨(Option.some.inj h).symm, fun x hx => by cases hx⟩
  | x :: l, q, h => by
    obtain ⟨r1, h1, h2⟩ := onO_some (show onO (sameA m r (f x)) (fun _ => eachM m f r l) = some q from h)
    obtain ⟨i1, i2⟩ := eachM_out (l := l) h2
    refine ⟨i1, fun y hy => ?_⟩
    rcases List.mem_cons.1 hy with rfl | hy
    · exact (sameA_out h1).2
    · exact i2 y hy
theorem memN_eq (x : Nat) : ∀ l : List Nat, memN x l = l.contains x
  | [] => rfl
  | y :: l => by
    show (Nat.beq x y || memN x l) = _
    rw [memN_eq x l, List.contains_cons]
    congr 1
    rw [Bool.eq_iff_iff]; simp
theorem leftM_out {since : Nat} {seen : List Nat} {r : RES} : ∀ {es : List ME} {c : List ME → Ans}, leftM since seen c es = some r → (∀ x ∈ es, x.2.2 < since) ∧ c (es.filter fun x => !seen.contains x.2.2) = some r
  | [], c, h => ⟨fun x hx => by (cases hx), h⟩
  | (a, v, b) :: es, c, h => by
    obtain ⟨h1, h2⟩ := onB_t (show onB (Nat.blt b since) (Bool.rec (leftM since seen (fun l => c ((a, v, b) :: l)) es) (leftM since seen c es) (memN b seen)) none = some r from h)
    rw [memN_eq] at h2
    rw [List.filter_cons]
    cases hs : seen.contains b with
    | true =>
      rw [hs] at h2
      obtain ⟨i1, i2⟩ := leftM_out h2
      refine ⟨fun x hx => ?_, by simpa using i2⟩
      rcases List.mem_cons.1 hx with rfl | hx
      · exact nat_lt h1
      · exact i1 x hx
    | false =>
      rw [hs] at h2
      obtain ⟨i1, i2⟩ := leftM_out h2
      refine ⟨fun x hx => ?_, by simpa using i2⟩
      rcases List.mem_cons.1 hx with rfl | hx
      · exact nat_lt h1
      · exact i1 x hx
section
variable {Y : Lay} {P : Program} {κ : KP} {cal : Cal} {o : Oper} {ro : Option Nat}
theorem wpj_call {f : Pth} {args : List O} (hc : compI Y P o = some (.call f args)) (HC : CalOk Y P κ cal) : WpJ Y P κ cal o (.call f args) ro := by
  intro t h k r hr n e a w hκ hT hR hD next Q hn
  obtain ⟨c, g, ho, hcal, rfl, hx⟩ := call_inv hc
  obtain ⟨v, h1, hr1, hr2⟩ := retK_some (show retK k (cal (.fn (Pth.of g) []) (evs t args) h) = some r from hr)
  obtain ⟨a1, a2⟩ := args_is hT (fun x hx => by simp only [ho, Op.operands, Call.operands]; simp; first | exact .inl (by simpa using hx) | exact .inr (by simpa using hx) | exact (by simpa using hx)) hx
  have H := HC _ _ _ _ hr1 e w _ hκ hR hT.gl rfl a1 a2
  have hxs : (c.args.toList.map a.eval).toArray = c.args.map a.eval := by simp [← Array.toList_map]
  rw [hxs] at H
  refine call_wp ho hcal (s := .fn (Pth.of g) []) (by simp [S.tr, Pth.of_n, Act.eval]) H ?_
  rintro x w' ⟨e', i1, i2, i3, i4⟩
  have i2 : h1.df = h.df := i2
  exact hn v h1 e' w' x a.defers r hr2 (.refl _ _) i1 i3 i4 (by rw [i2]; exact hD.agr i1.agr i1.le)
theorem wpj_callv {f : O} {args : List O} (hc : compI Y P o = some (.callv f args)) (HC : CalOk Y P κ cal) : WpJ Y P κ cal o (.callv f args) ro := by
  intro t h k r hr n e a w hκ hT hR hD next Q hn
  obtain ⟨c, i, ho, hcal, rfl, hx⟩ := callv_inv hc
  obtain ⟨s, hs, hr0⟩ := asS_some (show asS (ev t (.t (Pth.of i))) _ = some r from hr)
  obtain ⟨v, h1, hr1, hr2⟩ := retK_some (show retK k (cal s (evs t args) h) = some r from hr0)
  obtain ⟨a1, a2⟩ := args_is hT (fun x hx => by simp only [ho, Op.operands, Call.operands]; simp; first | exact .inl (by simpa using hx) | exact .inr (by simpa using hx) | exact (by simpa using hx)) hx
  obtain ⟨e1, e2⟩ := ev_is hT (x := .tmp i) (y := .t (Pth.of i)) (by simp [ho, Op.operands, Call.operands, hcal]) rfl
  rw [hs] at e1 e2
  have H := HC _ _ _ _ hr1 e w _ hκ hR hT.gl e1 a1 a2
  have hnu : nU s = true := by cases s <;> first | rfl | exact H.elim
  have hn0 : a.eval (.tmp i) = s.tr e := by
    rcases e2 with e2 | e2
    · cases e2
    · exact e2.eq hnu
  have hxs : (c.args.toList.map a.eval).toArray = c.args.map a.eval := by simp [← Array.toList_map]
  rw [hxs] at H
  refine call_wp ho hcal (s := s) hn0 H ?_
  rintro x w' ⟨e', i1, i2, i3, i4⟩
  have i2 : h1.df = h.df := i2
  exact hn v h1 e' w' x a.defers r hr2 (.refl _ _) i1 i3 i4 (by rw [i2]; exact hD.agr i1.agr i1.le)
theorem dfr_inv {f : Pth} {args : List O} (h : compI Y P o = some (.dfr f args)) : ∃ (c : Call) (g : FuncId), o.op = .defer c ∧ c.callee = .value (.func g) ∧ f = Pth.of g ∧ compXs Y c.args.toList = some args := by
  unfold compI at h
  (repeat' split at h) <;> (try (simp only [Option.map_eq_some_iff] at h; obtain ⟨_, hx, h⟩ := h)) <;> (try (cases h; done)) <;> (try cases h)
  all_goals first
    | exact ⟨_, _, by assumption, by assumption, rfl, by assumption⟩
    | (exfalso; unfold compE at h; (repeat' split at h) <;> cases h)
theorem nxt_inv {x : O} (h : compI Y P o = some (.nxt x)) : ∃ y, o.op = .next y false ∧ compX Y y = some x := by
  unfold compI at h
  (repeat' split at h) <;> (try (simp only [Option.map_eq_some_iff] at h; obtain ⟨_, hx, h⟩ := h)) <;> (try (cases h; done)) <;> (try cases h)
  all_goals first
    | exact ⟨_, by assumption, by assumption⟩
    | (exfalso; unfold compE at h; (repeat' split at h) <;> cases h)
theorem Rel.df {e : Env} {h h' : Hp} {w : World} (H : Rel e h w) (hb : h'.b = h.b) (hn : h'.n = h.n) (h1 : h'.er = h.er) (h2 : h'.eq = h.eq) : Rel e h' w := by
  have hat : ∀ r, h'.at r = h.at r := fun r => by simp only [Hp.at, hb]
  exact ⟨fun r hr => by rw [hat]; exact H.ok r (hn ▸ hr), fun r r' hr hr' => by rw [hat, hat]; exact H.sep r r' (hn ▸ hr) (hn ▸ hr'), fun r hr => by rw [hat, hn]; exact H.val r (hn ▸ hr), fun r hr => by rw [hat, h1, h2]; exact H.esc r (hn ▸ hr)⟩
theorem Step.df {e : Env} {h h' : Hp} {w : World} (H : Rel e h w) (hb : h'.b = h.b) (hn : h'.n = h.n) (h1 : h'.er = h.er) (h2 : h'.eq = h.eq) (h3 : h'.fz = h.fz) (h4 : h'.ch = h.ch) : Step e h w e h' w :=
  ⟨H.df hb hn h1 h2, h3, h4, Agr.refl _ _, by rw [hn]; exact Nat.le_refl _, rfl, rfl, rfl, Nat.le_refl _, fun _ _ _ => rfl, fun r hr hw => .inl ⟨r, hn ▸ hr, by simpa only [Hp.at, hb] using hw, rfl⟩, fun r hr hw => .inl ⟨r, hn ▸ hr, by simpa only [Hp.at, hb] using hw, rfl⟩⟩
theorem wpj_dfr {f : Pth} {args : List O} (hc : compI Y P o = some (.dfr f args)) : WpJ Y P κ cal o (.dfr f args) none := by
  intro t h k r hr n e a w hκ hT hR hD next Q hn
  obtain ⟨c, g, ho, hcal, rfl, hx⟩ := dfr_inv hc
  obtain ⟨b, m, er, eq, fz, df, ch⟩ := h
  have hr : k vu (Hp.mk b m er eq fz (.fn (Pth.of g) (evs t args) :: df) ch) = some r := hr
  obtain ⟨a1, a2⟩ := args_is hT (fun x hx => by simp only [ho, Op.operands, Call.operands]; simp; first | exact .inl (by simpa using hx) | exact .inr (by simpa using hx) | exact (by simpa using hx)) hx
  refine ⟨fun f _ => wd_fn none f, ?_⟩
  have hrun : (o.semAt (wd none).round a.eval).run P w = .ok (.defer { target := .fn (.func g) #[], args := c.args.map a.eval }) w := by
    show (o.semAt none a.eval).run P w = _
    rw [Oper.semAt_none]
    simp [execOp, ho, resolve, hcal, Act.eval, Deferred.ofValue]
  rw [hrun, Oper.uponIn_defer]
  refine hn vu _ e w undef _ r hr (.refl _ _) (Step.df hR rfl rfl rfl rfl rfl rfl) undef_is rfl ?_
  refine All2.cons ⟨a1, _, a2, ?_⟩ hD
  rw [Pth.of_n]
  congr 1
  simp [← Array.toList_map]
theorem apN_eq (b : List Nat) : ∀ a : List Nat, apN a b = a ++ b
  | [] => rfl
  | x :: a => by show x :: apN a b = _; rw [apN_eq b a]; rfl
theorem Hp.setK_eq' (h : Hp) (r : Pth) (x : B) (k : Hp → Ans) : h.setK r x k = k (h.set r x) := Hp.setK_eq h r x k
theorem wpj_nxt {x : O} (hc : compI Y P o = some (.nxt x)) : WpJ Y P κ cal o (.nxt x) ro := by
  intro t h k r hr n e a w hκ hT hR hD next Q hn
  obtain ⟨y, ho, hx⟩ := nxt_inv hc
  have hno : ∀ c, o.op ≠ .defer c := fun c h => by rw [ho] at h; cases h
  obtain ⟨q, off, hq, r1⟩ := asP_some (show asP (ev t x) _ = some r from hr)
  obtain ⟨h0, r2⟩ := onB_t r1
  obtain ⟨m, since, seen, last, hg, r3⟩ := itK_some r2
  have hoff := nat_eq h0
  clear hr r1 r2
  subst hoff
  obtain ⟨e1, e2⟩ := ev_eq hT (x := y) (by simp [ho, Op.operands]) hx hq (by simp) rfl
  obtain ⟨g1, g2⟩ := hR.gb (r := q) e2
  rw [hg] at g1 g2
  obtain ⟨g0, g1⟩ := g1
  have e1 : a.eval y = .pointer (some ⟨(e.σ q).1, 0, none⟩) := by rw [← adr0 g0]; exact e1
  have over : k (.tup [.s (.b false)]) h = some r → (Instr.next (a.eval y) false o.type).run P w = .ok (.tuple #[.bool false]) w → o.wpIn (wd ro) n P a w next Q := fun hk hrun => by
    refine wpIn_run hno (x := .tuple #[.bool false]) (by simp only [execOp, ho, Sem.run_bind, hrun, Result.andThen_ok]; rfl) (.inl rfl) ?_
    exact hn _ h e w _ a.defers r hk (.refl _ _) (.refl hR) (.inr (.inl rfl)) rfl hD
  cases m with
  | none =>
    refine over r3 ?_
    have g1 : w.heap[(e.σ q).1]? = some (.mapIter none since seen.toArray last) := g1
    have hgo : (getObj (e.σ q).1).run P w = .ok (.mapIter none since seen.toArray last) w := by simp [getObj, Sem.run, g1]
    rw [e1]
    simp only [Instr.next, Sem.run_bind, hgo, Result.andThen_ok]
    rfl
  | some m =>
    obtain ⟨es, ck, hm, r4⟩ := mpK_some (show mpK (h.gb m) _ = some r from r3)
    obtain ⟨hck, r5⟩ := onB_t r4
    obtain ⟨hck, hsl⟩ := and_t hck
    have hlast := nat_eq hck
    have hsl := nat_le hsl
    obtain ⟨hold, r6⟩ := leftM_out r5
    clear r3 r4 r5
    have g1 : w.heap[(e.σ q).1]? = some (.mapIter (some (e.σ m).1) since seen.toArray last) := g1
    have g2 : m.ok h.n.n = true := g2
    obtain ⟨m1, m2⟩ := hR.gb (r := m) g2
    rw [hm] at m1 m2
    have m1 : w.heap[(e.σ m).1]? = some (.map (es.map (entT e)).toArray ck) := m1
    simp only [B.ok, B.rf, List.all_eq_true, Bool.and_eq_true] at m2
    have hlf : (leftOf (es.map (entT e)).toArray seen.toArray).toList = (es.filter fun x => !seen.contains x.2.2).map (entT e) := by
      simp only [leftOf, Array.toList_filter, List.filter_map]
      congr 1
      apply List.filter_congr
      intro z _
      simp only [Function.comp, entT, List.contains_toArray]
    have hfr : ∀ (l : List ME) (f : ME → Ans), (∀ z, f z = (Prod.casesOn z fun key q2 => Prod.casesOn q2 fun v b => key.toC fun key => v.toC fun v => h.setK q (.it (some m) since (apN seen [b]) ck) fun h => k (.tup [.s (.b true), key, v]) h)) →
        (es.filter fun x => !seen.contains x.2.2) = l → (∀ z ∈ l, ∃ r', f z = some r' ∧ Lk h r r') → (l = [] → k (.tup [.s (.b false)]) h = some r) → o.wpIn (wd ro) n P a w next Q := fun l f hf hl hall hnil => by
      rcases run_next_at (P := P) w o.type (e.σ q).1 (e.σ m).1 since last seen.toArray (es.map (entT e)).toArray ck g1 m1 (fun z hz => by
        simp only [List.mem_map] at hz
        obtain ⟨u, hu, rfl⟩ := hz
        exact hold u hu) (by omega) with ⟨h1, hrun⟩ | ⟨e3, he3, w1, hw1, hrun⟩
      · refine over (hnil ?_) (by rw [e1]; exact hrun)
        have : (leftOf (es.map (entT e)).toArray seen.toArray).toList = [] := by simpa using h1
        rw [hlf, hl] at this
        simpa using this
      · rw [hlf, hl] at he3
        obtain ⟨z, hz, rfl⟩ := List.mem_map.1 he3
        obtain ⟨r', hr1, hr2⟩ := hall z hz
        have hzes : z ∈ es := by rw [← hl] at hz; exact (List.mem_filter.1 hz).1
        obtain ⟨key, v, b⟩ := z
        rw [hf] at hr1
        obtain ⟨ck', hr3, _, _, _, ka5, ka6⟩ := toC_out hr1
        obtain ⟨cv, hr4, _, _, _, va5, va6⟩ := toC_out hr3
        rw [Hp.setK_eq', apN_eq] at hr4
        have hz2 := m2 _ hzes
        have hqn := Pth.ok_iff.1 e2
        have hat : h.at q = .it (some m) since seen last := by rw [← Hp.gb_eq]; exact hg
        have hs : Step e h w e (h.set q (.it (some m) since (seen ++ [b]) ck)) (setBlock w1 (e.σ q).1 (.mapIter (some (e.σ m).1) since (seen.toArray.push b) ck)) := by
          have hh : w1.heap = w.heap ∧ w1.os = w.os ∧ w1.tape = w.tape ∧ w1.output = w.output := by rcases hw1 with rfl | rfl <;> exact ⟨rfl, rfl, rfl, rfl⟩
          have hlt : (e.σ q).1 < w1.heap.size := by rw [hh.1]; exact (Array.getElem?_eq_some_iff.1 g1).1
          refine Step.upd hR hqn (by rw [hat]; rfl) ?_ g2 ?_ (fun b' hb' => ?_) (by simp [setBlock, hh.1]) hh.2.1 hh.2.2.1 hh.2.2.2
          · refine ⟨g0, ?_⟩
            simp only [setBlock, Array.getElem?_setIfInBounds, if_pos hlt]
            simp
          · have := hR.esc q hqn
            rw [hat] at this
            exact this
          · simp only [setBlock, Array.getElem?_setIfInBounds, hh.1]
            rw [if_neg (fun c => hb' c.symm)]
        refine wpIn_run hno (x := .tuple #[.bool true, key.tr e, v.tr e]) (by rw [← e1] at hrun; simp only [execOp, ho, Sem.run_bind, hrun, Result.andThen_ok]; rfl) (.inl rfl) ?_
        refine hn _ _ e _ _ a.defers r' hr4 hr2 hs (.inr (.inl ?_)) ?_ ?_
        · simp only [V.tr, List.map_cons, List.map_nil, ka5, va5]; rfl
        · show (C.rf (Pth.ok h.n.n) (.s (.b true)) && (C.rf (Pth.ok h.n.n) ck' && (C.rf (Pth.ok h.n.n) cv && true))) = true
          rw [ka6 _ (V.rk_rf hz2.1), va6 _ (V.rk_rf hz2.2)]; rfl
        · exact hD
    cases hl : (es.filter fun x => !seen.contains x.2.2) with
    | nil =>
      rw [hl] at r6
      exact hfr [] (fun z => (Prod.casesOn z fun key q2 => Prod.casesOn q2 fun v b => key.toC fun key => v.toC fun v => h.setK q (.it (some m) since (apN seen [b]) ck) fun h => k (.tup [.s (.b true), key, v]) h)) (fun _ => rfl) hl (fun z hz => by cases hz) (fun _ => r6)
    | cons z l =>
      rw [hl] at r6
      cases l with
      | nil =>
        refine hfr [z] (fun z => (Prod.casesOn z fun key q2 => Prod.casesOn q2 fun v b => key.toC fun key => v.toC fun v => h.setK q (.it (some m) since (apN seen [b]) ck) fun h => k (.tup [.s (.b true), key, v]) h)) (fun _ => rfl) hl (fun u hu => ?_) (fun h => by cases h)
        obtain rfl := List.mem_singleton.1 hu
        exact ⟨r, r6, .refl _ _⟩
      | cons z2 l =>
        obtain ⟨hch, r7⟩ := onB_t (show onB h.ch _ none = some r from r6)
        obtain ⟨r0, r8, r9⟩ := onO_some r7
        obtain ⟨rfl, r10⟩ := eachM_out r9
        refine hfr (z :: z2 :: l) (fun z => (Prod.casesOn z fun key q2 => Prod.casesOn q2 fun v b => key.toC fun key => v.toC fun v => h.setK q (.it (some m) since (apN seen [b]) ck) fun h => k (.tup [.s (.b true), key, v]) h)) (fun _ => rfl) hl (fun u hu => ?_) (fun h => by cases h)
        rcases List.mem_cons.1 hu with rfl | hu
        · exact ⟨r, r8, .refl _ _⟩
        · obtain ⟨r', i1, i2, i3, i4, i5⟩ := r10 u hu
          exact ⟨r', i1, .inr ⟨hch, i2, i3, i4, i5⟩⟩
theorem wpj_all {op : J} (hc : compI Y P o = some op) (HC : CalOk Y P κ cal) (hro : ro = none ∨ ∀ f args, op ≠ .dfr f args) : WpJ Y P κ cal o op ro := by
  have hcls := comp_cls hc
  by_cases hcal : op.calls = true
  · cases op <;> first | (cases hcal; done) | skip
    · exact wpj_call hc HC
    · exact wpj_callv hc HC
    · exact wpj_nxt hc
    · rcases hro with rfl | hro
      · exact wpj_dfr hc
      · exact absurd rfl (hro _ _)
  · have hcal : op.calls = false := by simpa using hcal
    refine Acts.wp (hcls.acts hcal) fun c ho => ?_
    unfold compI at hc
    rw [ho] at hc
    simp only at hc
    split at hc
    · simp only [Option.map_eq_some_iff] at hc
      obtain ⟨_, _, rfl⟩ := hc
      cases hcal
    · cases hc
end
end Go.E
