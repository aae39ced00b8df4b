/- A part of the proof of the claim that the last text of this folder states. -/
import Derived.Test.YtebgbhgehnpahaaGreatDoorP04
namespace Go.E
set_option linter.all false
section
variable {Y : Lay} {P : Program} {o : Oper}
theorem stG_true {s : S} {c : List Nat → Bool} (h : stG s false c = true) : ∃ l, s = .st l ∧ c l = true := by
  cases s <;> first | exact ⟨_, rfl, h⟩ | cases h
theorem keyB_some {ks : List Bool} {v : V} (h : keyB ks v = true) : (ks = [] ∧ ∃ k n, v = .s (.i k n) ∧ reB n = true) ∨ ((∃ k, ks = [k]) ∧ ∃ l, v = .s (.st l)) ∨ (2 ≤ ks.length ∧ ∃ x, v = .agg x ∧ cmpSs ks x x = true) := by
  cases ks with
  | nil =>
    cases v <;> first | (cases h; done) | skip
    rename_i s
    cases s <;> first | (cases h; done) | skip
    exact .inl ⟨rfl, _, _, rfl, h⟩
  | cons k ks => cases ks with
    | nil =>
      cases v <;> first | (cases h; done) | skip
      obtain ⟨l, rfl, _⟩ := stG_true (show stG _ false _ = true from h)
      exact .inr (.inl ⟨⟨k, rfl⟩, l, rfl⟩)
    | cons k2 ks =>
      cases v <;> first | (cases h; done) | skip
      exact .inr (.inr ⟨by simp, _, rfl, h⟩)
theorem keyB_nU {ks : List Bool} {v : V} (h : keyB ks v = true) : v.nU = true ∧ v ≠ .u := by
  rcases keyB_some h with ⟨_, k, n, rfl, hn⟩ | ⟨_, l, rfl⟩ | ⟨_, x, rfl, _⟩
  · exact ⟨reB_kn hn, by simp⟩
  · exact ⟨rfl, by simp⟩
  · exact ⟨rfl, by simp⟩
theorem cmpSs_kinds : ∀ {ks : List Bool} {x : List S}, cmpSs ks x x = true → ∀ s ∈ x, (∃ k n, s = .i k n) ∨ ∃ b, s = .b b
  | [], [], _, s, hs => by cases hs
  | k :: ks, y :: x, h, s, hs => by
    obtain ⟨h1, h2⟩ := cmpSs_cons h
    rcases List.mem_cons.1 hs with rfl | hs
    · rcases h1 with ⟨_, j, m, n, rfl, _⟩ | ⟨_, p, q, rfl, _⟩
      · exact .inl ⟨_, _, rfl⟩
      · exact .inr ⟨_, rfl⟩
    · exact cmpSs_kinds h2 s hs
  | [], _ :: _, h, _, _ => by cases h
  | _ :: _, [], h, _, _ => by cases h
theorem ck_int {kt : TypeId} {k : IntKind} (hu : P.underlying kt = some (.int k)) (em : Bool) (d : Nat) (v : Value) (w : World) : (Instr.checkKey em (d + 1) kt v).run P w = .ok () w := by
  simp [Instr.checkKey, run_underlying hu]
theorem ck_str {kt : TypeId} (hu : P.underlying kt = some .string) (em : Bool) (d : Nat) (v : Value) (w : World) : (Instr.checkKey em (d + 1) kt v).run P w = .ok () w := by
  simp [Instr.checkKey, run_underlying hu]
theorem ck_run {kt : TypeId} {ks : List Bool} (hk : keyKs P kt = some ks) {kv : V} (h : keyB ks kv = true) (em : Bool) (e : Env) (w : World) : (Instr.checkKey em 10000 kt (kv.tr e)).run P w = .ok () w := by
  rcases keyKs_some hk with ⟨_, k, hu⟩ | ⟨_, hu⟩ | ⟨hn, hs, hf⟩
  · exact ck_int hu em 9999 _ w
  · exact ck_str hu em 9999 _ w
  · rcases keyB_some h with ⟨h0, _⟩ | ⟨⟨_, h0⟩, _⟩ | ⟨hne, x, rfl, hc⟩
    · rw [h0] at hn; exact absurd hn (by simp)
    · rw [h0] at hn; exact absurd hn (by simp)
    · obtain ⟨sz, hsz⟩ := flat_agg hs hf
      exact run_ck_flat em w e 20 kt ks (some sz) 10000 x hf hsz (by omega) (cmpSs_length hc).1 (cmpSs_kinds hc)
theorem ofV_nU {v : Value} {x : V} (h : ofV v = some x) : x.nU = true := by
  have hs : (ofS v).map V.s = some x → x.nU = true := fun h => by
    cases h1 : ofS v with
    | none => simp [h1] at h
    | some s =>
      simp only [h1, Option.map_some, Option.some.injEq] at h
      subst h
      exact (ofS_tr h1 ⟨fun _ => (0, 0), fun _ => 0, fun _ => 0, 0, fun _ _ _ => True⟩).2.2
  unfold ofV at h
  split at h
  · rename_i cs
    cases h1 : ofSs cs.toList with
    | none => simp [h1] at h
    | some l => simp only [h1, Option.map_some, Option.some.injEq] at h; subst h; rfl
  · exact hs h
theorem zeroV_run {T : TypeId} {z : V} (h : zeroV P T = some z) (e : Env) (w : World) : (zeroValue T).run P w = .ok (z.tr e) w ∧ ∀ f, z.rf f = true := by
  unfold zeroV at h
  split at h
  · rename_i i hi
    split at h
    · rename_i v hz
      have := ofV_tr h e
      exact ⟨by simp [zeroValue, typeInfo, hi, hz, this.1], this.2⟩
    · cases h
  · cases h
theorem toC_out {v : V} {c : C → Ans} {r : RES} (h : v.toC c = some r) : ∃ x : C, c x = some r ∧ (∀ c, v.toC c = c x) ∧ v.nU = true ∧ v ≠ .u ∧ (∀ e : Env, x.tr e = v.tr e) ∧ ∀ f, v.rf f = true → x.rf f = true := by
  cases v with
  | s x =>
    obtain ⟨hn, h⟩ := onB_t (show onB (nU x) (c (.s x)) none = some r from h)
    refine ⟨.s x, h, fun c => ?_, hn, by simp, fun _ => rfl, fun f hf => V.rf_s' hf hn⟩
    show onB (nU x) (c (.s x)) none = _
    rw [hn]; rfl
  | agg xs => exact ⟨.agg xs, h, fun _ => rfl, rfl, by simp, fun _ => rfl, fun f hf => hf⟩
  | tup cs => cases h
  | u => cases h
theorem lkR_out {ok : Bool} {v : V} {q : Bool} {h : Hp} {k : KV} {r : RES} (hr : lkR ok v q h k = some r) : ∃ u, (∀ h k, lkR ok v q h k = k u h) ∧ ∀ e f, v.rf f = true → v.nU = true → u.rf f = true ∧ Isu e u (if ok then .tuple #[v.tr e, .bool q] else v.tr e) := by
  cases ok with
  | false => exact ⟨v, fun _ _ => rfl, fun e f hf hn => ⟨hf, .mk _⟩⟩
  | true =>
    obtain ⟨x, h1, h2, h3, h4, h5, h6⟩ := toC_out (show v.toC (fun c => k (.tup [c, .s (.b q)]) h) = some r from hr)
    refine ⟨.tup [x, .s (.b q)], fun h k => h2 (fun c => k (.tup [c, .s (.b q)]) h), fun e f hf hn => ⟨?_, .inr (.inl ?_)⟩⟩
    · show (C.rf f x && (C.rf f (.s (.b q)) && true)) = true
      rw [h6 f hf]; rfl
    · simp only [V.tr, if_true, List.map_cons, List.map_nil, h5 e]; rfl
theorem scan_mem {ks : List Bool} {kv : V} : ∀ {es : List ME} {i j : Nat} {v : V}, scan ks kv es i = some (some (j, v)) → ∃ a b, i ≤ j ∧ es[j - i]? = some (a, v, b) ∧ eqK ks kv a = some true
  | [], i, j, v, h => by cases h
  | (a, v', b) :: es, i, j, v, h => by
    rw [scan] at h
    cases hq : eqK ks kv a with
    | none => rw [hq] at h; cases h
    | some q =>
      rw [hq] at h
      cases q with
      | true => cases h; exact ⟨a, b, Nat.le_refl _, by simp, hq⟩
      | false =>
        obtain ⟨a', b', h1, h2, h3⟩ := scan_mem (i := i + 1) h
        refine ⟨a', b', by omega, ?_, h3⟩
        rw [show j - i = (j - (i + 1)) + 1 by omega]
        exact h2
theorem V.nU_rk {v : V} {f : Pth → Bool} (h : v.rk f = true) : v.nU = true := by
  cases v with
  | s x => cases x <;> first | rfl | exact h
  | _ => rfl
def gotV (z : V) : Option (Nat × V) → V × Bool
  | some (_, v) => (v, true)
  | none => (z, false)
theorem fnd_out {ks : List Bool} {kv z : V} {ok : Bool} {h : Hp} {k : KV} {es : List ME} {r : RES} (hr : fndK ks kv (fun v => lkR ok v true h k) (fun _ => lkR ok z false h k) es = some r) :
    ∃ sr, scan ks kv es 0 = some sr ∧ lkR ok (gotV z sr).1 (gotV z sr).2 h k = some r ∧ ∀ h k, fndK ks kv (fun v => lkR ok v true h k) (fun _ => lkR ok z false h k) es = lkR ok (gotV z sr).1 (gotV z sr).2 h k := by
  rw [fndK_scan _ _ _ _ es 0] at hr
  cases hsc : scan ks kv es 0 with
  | none => rw [hsc] at hr; cases hr
  | some sr =>
    rw [hsc] at hr
    refine ⟨sr, rfl, ?_, fun h k => ?_⟩
    · rcases sr with _ | ⟨j, v⟩ <;> exact hr
    · rw [fndK_scan _ _ _ _ es 0, hsc]
      rcases sr with _ | ⟨j, v⟩ <;> rfl
theorem lkB_some {b : B} {c : List ME → Ans} {d : List (V × V) → Ans} {r : RES} (h : lkB b c d = some r) : (∃ es ck, b = .mp es ck ∧ c es = some r) ∨ ∃ es, b = .ml es ∧ d es = some r := by
  cases b <;> first | exact .inl ⟨_, _, rfl, h⟩ | exact .inr ⟨_, rfl, h⟩ | cases h
theorem e_lkB (es : List ME) (ck : Nat) (c : List ME → Ans) (d : List (V × V) → Ans) : lkB (.mp es ck) c d = c es := rfl
theorem uniK_all {ks : List Bool} {kv : V} : ∀ {es : List (V × V)} {r : Option V}, uniK ks kv es = some r → (∀ x ∈ es, eqK ks kv x.1 = some false ∨ (eqK ks kv x.1 = some true ∧ r = some x.2)) ∧ (r ≠ none → ∃ x ∈ es, eqK ks kv x.1 = some true)
  | [], r, h => by
    cases h
    exact ⟨fun x hx => (by cases hx), fun h => absurd rfl h⟩
  | (a, v) :: es, r, h => by
    obtain ⟨b, hb, h1⟩ := onO_some (show onO (eqK ks kv a) (fun b => onO (uniK ks kv es) fun r => Bool.rec (some r) (Option.rec (some (some v)) (fun _ => none) r) b) = some r from h)
    obtain ⟨r0, hr0, h2⟩ := onO_some h1
    obtain ⟨i1, i2⟩ := uniK_all hr0
    cases b with
    | false =>
      cases h2
      refine ⟨fun x hx => ?_, fun hn => ?_⟩
      · rcases List.mem_cons.1 hx with rfl | hx
        · exact .inl hb
        · exact i1 x hx
      · obtain ⟨x, k1, k2⟩ := i2 hn
        exact ⟨x, List.mem_cons_of_mem _ k1, k2⟩
    | true =>
      cases r0 with
      | some _ => cases h2
      | none =>
        cases h2
        refine ⟨fun x hx => ?_, fun _ => ⟨_, List.mem_cons_self, hb⟩⟩
        rcases List.mem_cons.1 hx with rfl | hx
        · exact .inr ⟨hb, rfl⟩
        · rcases i1 x hx with k | ⟨_, k⟩
          · exact .inl k
          · cases k
theorem scan_all {ks : List Bool} {kv : V} {r : Option V} : ∀ {l : List ME} (i : Nat), (∀ x ∈ l, eqK ks kv x.1 = some false ∨ (eqK ks kv x.1 = some true ∧ r = some x.2.1)) → ((∃ x ∈ l, eqK ks kv x.1 = some true) ∨ r = none) → ∃ sr, scan ks kv l i = some sr ∧ sr.map (·.2) = r
  | [], i, h1, h2 => by
    rcases h2 with ⟨x, hx, _⟩ | h2
    · cases hx
    · exact ⟨none, rfl, by rw [h2]; rfl⟩
  | (a, v, b) :: l, i, h1, h2 => by
    rw [scan]
    rcases h1 _ List.mem_cons_self with h | ⟨h, hr⟩
    · rw [h]
      refine scan_all (i + 1) (fun x hx => h1 x (List.mem_cons_of_mem _ hx)) ?_
      rcases h2 with ⟨x, hx, k⟩ | h2
      · rcases List.mem_cons.1 hx with rfl | hx
        · rw [h] at k; cases k
        · exact .inl ⟨x, hx, k⟩
      · exact .inr h2
    · rw [h]
      exact ⟨some (i, v), rfl, hr.symm⟩
theorem uniK_scan {ks : List Bool} {kv : V} {es : List (V × V)} {r : Option V} (h : uniK ks kv es = some r) {l : List ME} (hp : (l.map fun x => (x.1, x.2.1)).Perm es) : ∃ sr, scan ks kv l 0 = some sr ∧ sr.map (·.2) = r := by
  obtain ⟨h1, h2⟩ := uniK_all h
  refine scan_all 0 (fun x hx => h1 _ (hp.mem_iff.1 (List.mem_map.2 ⟨x, hx, rfl⟩))) ?_
  cases r with
  | none => exact .inr rfl
  | some v =>
    obtain ⟨x, k1, k2⟩ := h2 (by simp)
    obtain ⟨y, k3, rfl⟩ := List.mem_map.1 (hp.mem_iff.2 k1)
    exact .inl ⟨y, k3, k2⟩
theorem looks_lk {T kt et : TypeId} {m key : Operand} {m' k' : O} {ok : Bool} {ks : List Bool} {z : V} (ho : o.op = .lookup T m key ok) (hu : P.underlying T = some (.map kt et)) (hz : zeroV P et = some z) (hk : keyKs P kt = some ks)
    (hm : compX Y m = some m') (hkey : compX Y key = some k') : Looks Y P o (.lk ok ks z m' k') := by
  intro cal t h k r hr
  obtain ⟨hkb, hr⟩ := onB_t (show onB (keyB ks (ev t k')) _ none = some r from hr)
  obtain ⟨s, hs, hr⟩ := asS_some (show asS (ev t m') _ = some r from hr)
  obtain ⟨knU, kne⟩ := keyB_nU hkb
  have hzn : ∀ e : Env, ∀ w : World, z.nU = true := fun e w => by
    unfold zeroV at hz
    split at hz
    · split at hz
      · exact ofV_nU hz
      · cases hz
    · cases hz
  cases s <;> first | (cases hr; done) | skip
  · rename_i q
    rcases lkB_some (show lkB (h.gb q) _ _ = some r from hr) with ⟨es, ck, hg, hr⟩ | ⟨es, hg, hr⟩
    rotate_left
    · obtain ⟨ur, hur, hr⟩ := onO_some hr
      obtain ⟨u, u1, u2⟩ := lkR_out (v := ur.getD z) (q := ur.isSome) (ok := ok) (h := h) (k := k) (r := r) (by cases ur <;> exact hr)
      refine ⟨u, fun cal k => ?_, fun e a w hT H => ?_⟩
      · show onB (keyB ks (ev t k')) _ none = _
        rw [hkb, e_t, hs, e_asS]
        show lkB (h.gb q) _ _ = _
        rw [hg]
        show onO (uniK ks (ev t k') es) _ = _
        rw [hur]
        have := u1 h k
        cases ur <;> exact this
      obtain ⟨e1, e2⟩ := ev_eq hT (x := m) (by simp [ho, Op.operands]) hm hs (by simp) rfl
      obtain ⟨k1, k2⟩ := ev_eq hT (x := key) (by simp [ho, Op.operands]) hkey rfl kne knU
      obtain ⟨g1, g2⟩ := H.gb (r := q) e2
      rw [hg] at g1 g2
      obtain ⟨l, ck, g1, gp⟩ := g1
      obtain ⟨sr, hsc, hsu⟩ := uniK_scan hur gp
      have hrf : (ur.getD z).rf (Pth.ok h.n.n) = true ∧ (ur.getD z).nU = true := by
        rcases sr with _ | ⟨j, v⟩
        · rw [← hsu]; exact ⟨(zeroV_run hz e w).2 _, hzn e w⟩
        · obtain ⟨a, b, _, hm, _⟩ := scan_mem hsc
          rw [← hsu]
          simp only [B.ok, B.rf, List.all_eq_true, Bool.and_eq_true] at g2
          have := (g2 _ (gp.mem_iff.1 (List.mem_map.2 ⟨_, List.mem_of_getElem? hm, rfl⟩))).2
          exact ⟨V.rk_rf this, V.nU_rk this⟩
      obtain ⟨i1, i2⟩ := u2 e (Pth.ok h.n.n) hrf.1 hrf.2
      have c1 := fun em => ck_run hk hkb em e w
      have c2 := scan_find hk hsc e w
      refine ⟨_, i2, i1, ?_⟩
      have hz1 := (zeroV_run hz e w).1
      have e1 : a.eval m = .map (some (e.σ q).1) := e1
      rcases sr with _ | ⟨j, v⟩
      · simp only [Option.map_none] at c2
        rw [← hsu]
        cases ok <;> simp [execOp, ho, e1, k1, Instr.lookup, run_underlying hu, MapKept.run_getObj_map g1, c1, c2, hz1]
      · simp only [Option.map_some] at c2
        rw [← hsu]
        cases ok <;> simp [execOp, ho, e1, k1, Instr.lookup, run_underlying hu, MapKept.run_getObj_map g1, c1, c2]
    obtain ⟨sr, hsc, hr, hf⟩ := fnd_out hr
    obtain ⟨u, u1, u2⟩ := lkR_out hr
    refine ⟨u, fun cal k => ?_, fun e a w hT H => ?_⟩
    · show onB (keyB ks (ev t k')) _ none = _
      rw [hkb, e_t, hs, e_asS]
      show lkB (h.gb q) _ _ = _
      rw [hg, e_lkB, hf, u1]
    obtain ⟨e1, e2⟩ := ev_eq hT (x := m) (by simp [ho, Op.operands]) hm hs (by simp) rfl
    obtain ⟨k1, k2⟩ := ev_eq hT (x := key) (by simp [ho, Op.operands]) hkey rfl kne knU
    obtain ⟨g1, g2⟩ := H.gb (r := q) e2
    rw [hg] at g1 g2
    have g1 : w.heap[(e.σ q).1]? = some (.map (es.map (entT e)).toArray ck) := g1
    have hrf : (gotV z sr).1.rf (Pth.ok h.n.n) = true ∧ (gotV z sr).1.nU = true := by
      rcases sr with _ | ⟨j, v⟩
      · exact ⟨(zeroV_run hz e w).2 _, hzn e w⟩
      · obtain ⟨a, b, _, hm, _⟩ := scan_mem hsc
        simp only [B.ok, B.rf, List.all_eq_true, Bool.and_eq_true] at g2
        have := (g2 _ (List.mem_of_getElem? hm)).2
        exact ⟨V.rk_rf this, V.nU_rk this⟩
    obtain ⟨i1, i2⟩ := u2 e (Pth.ok h.n.n) hrf.1 hrf.2
    have c1 := fun em => ck_run hk hkb em e w
    have c2 := scan_find hk hsc e w
    refine ⟨_, i2, i1, ?_⟩
    have hz1 := (zeroV_run hz e w).1
    have e1 : a.eval m = .map (some (e.σ q).1) := e1
    rcases sr with _ | ⟨j, v⟩
    · simp only [Option.map_none] at c2
      cases ok <;> simp [execOp, ho, e1, k1, Instr.lookup, run_underlying hu, MapKept.run_getObj_map g1, c1, c2, gotV, hz1]
    · simp only [Option.map_some] at c2
      cases ok <;> simp [execOp, ho, e1, k1, Instr.lookup, run_underlying hu, MapKept.run_getObj_map g1, c1, c2, gotV]
  · obtain ⟨u, u1, u2⟩ := lkR_out (show lkR ok z false h k = some r from hr)
    refine ⟨u, fun cal k => ?_, fun e a w hT H => ?_⟩
    · show onB (keyB ks (ev t k')) _ none = _
      rw [hkb, e_t, hs, e_asS]
      exact u1 h k
    obtain ⟨e1, e2⟩ := ev_eq hT (x := m) (by simp [ho, Op.operands]) hm hs (by simp) rfl
    obtain ⟨k1, k2⟩ := ev_eq hT (x := key) (by simp [ho, Op.operands]) hkey rfl kne knU
    have hz1 := zeroV_run hz e w
    obtain ⟨i1, i2⟩ := u2 e (Pth.ok h.n.n) (hz1.2 _) (hzn e w)
    have c1 := ck_run hk hkb true e w
    have c2 := scan_find hk (show scan ks (ev t k') [] 0 = some none from rfl) e w
    refine ⟨_, i2, i1, ?_⟩
    have e1 : a.eval m = .map none := e1
    simp only [List.map_nil, Option.map_none] at c2
    have c1' : (Instr.checkKey (#[] : Array MapEntry).isEmpty 10000 kt ((ev t k').tr e)).run P w = .ok () w := c1
    simp only [execOp, ho, e1, k1, Instr.lookup, Sem.run_bind, run_underlying hu, Result.andThen_ok, Sem.run_pure, c1', c2, hz1.1]
end
section
variable {Y : Lay} {P : Program} {o : Oper}
theorem itK_some {b : B} {c : Option Pth → Nat → List Nat → Nat → Ans} {r : RES} (h : itK b c = some r) : ∃ m s l n, b = .it m s l n ∧ c m s l n = some r := by
  cases b <;> first | exact ⟨_, _, _, _, rfl, h⟩ | cases h
theorem e_itK (m : Option Pth) (s : Nat) (l : List Nat) (n : Nat) (c : Option Pth → Nat → List Nat → Nat → Ans) : itK (.it m s l n) c = c m s l n := rfl
theorem lastN_eq : ∀ l : List Nat, lastN l = l.getLast?
  | [] => rfl
  | [x] => rfl
  | x :: y :: l => by
    show lastN (y :: l) = _
    rw [lastN_eq (y :: l)]; simp
theorem bornK_out {b : Nat} {c : V → V → Ans} : ∀ {es : List ME} {r : RES}, bornK b c es = some r → ∃ a v, (a, v, b) ∈ es ∧ c a v = some r ∧ (∀ c, bornK b c es = c a v) ∧ ∀ e : Env, (es.map (entT e)).find? (fun x => x.born == b) = some (entT e (a, v, b))
  | [], r, h => by cases h
  | (a, v, b') :: es, r, h => by
    have h : (Bool.rec (bornK b c es) (c a v) (Nat.beq b' b) : Ans) = some r := h
    cases hb : Nat.beq b' b with
    | true =>
      rw [hb] at h
      obtain rfl := nat_eq hb
      refine ⟨a, v, List.mem_cons_self, h, fun c => ?_, fun e => by simp [entT]⟩
      show (Bool.rec (bornK b' c es) (c a v) (Nat.beq b' b') : Ans) = _
      rw [hb]
    | false =>
      rw [hb] at h
      obtain ⟨a', v', h1, h2, h3, h4⟩ := bornK_out (es := es) h
      refine ⟨a', v', List.mem_cons_of_mem _ h1, h2, fun c => ?_, fun e => ?_⟩
      · show (Bool.rec (bornK b c es) (c a v) (Nat.beq b' b) : Ans) = _
        rw [hb]; exact h3 c
      · have : (b' == b) = false := by
          cases hq : (b' == b) with
          | false => rfl
          | true => have := eq_of_beq hq; subst this; simp at hb
        have hne : ¬ b' = b := by intro e; rw [e] at this; simp at this
        simp only [List.map_cons, List.find?_cons, entT, this]
        exact h4 e
theorem adr0 {e : Env} {r : Pth} (h : (e.σ r).2 = 0) : adr e r 0 = ⟨(e.σ r).1, 0, none⟩ := by simp [adr, h]
theorem looks_ent {x : Operand} {y : O} (ho : o.op = .entry x) (hx : compX Y x = some y) : Looks Y P o (.ent y) := by
  intro cal t h k r hr
  obtain ⟨q, off, hq, r1⟩ := asP_some (show asP (ev t y) _ = some r from hr)
  obtain ⟨h0, r2⟩ := onB_t r1
  obtain ⟨m, since, seen, last, hg, r3⟩ := itK_some r2
  obtain ⟨m, rfl, r4⟩ := onO_some r3
  obtain ⟨es, ck, hm, r5⟩ := mpK_some r4
  obtain ⟨hck, r6⟩ := onB_t r5
  obtain ⟨b, hb, r7⟩ := onO_some r6
  obtain ⟨a, v, hin, r8, hbk, hfind⟩ := bornK_out r7
  obtain ⟨ca, r9, ha2, ha3, ha4, ha5, ha6⟩ := toC_out r8
  obtain ⟨cv, r10, hv2, hv3, hv4, hv5, hv6⟩ := toC_out r9
  have hoff := nat_eq h0
  have hlast := nat_eq hck
  clear hr r1 r2 r3 r4 r5 r6 r7 r8 r9 r10
  subst hoff
  subst hlast
  refine ⟨.tup [ca, cv], fun cal k => ?_, fun e a' w hT H => ?_⟩
  · show asP (ev t y) _ = _
    rw [hq, e_asP]
    show onB (Nat.beq 0 0) _ none = _
    rw [h0, e_t, hg, e_itK, e_o, hm, e_mpK, hck, e_t, hb, e_o, hbk, ha2, hv2]
  obtain ⟨e1, e2⟩ := ev_eq hT (x := x) (by simp [ho, Op.operands]) hx hq (by simp) rfl
  obtain ⟨g1, g2⟩ := H.gb (r := q) e2
  rw [hg] at g1 g2
  obtain ⟨g0, g1⟩ := g1
  have g2 : m.ok h.n.n = true := g2
  obtain ⟨m1, m2⟩ := H.gb (r := m) g2
  rw [hm] at m1 m2
  have m1 : w.heap[(e.σ m).1]? = some (.map (es.map (entT e)).toArray ck) := m1
  simp only [B.ok, B.rf, List.all_eq_true, Bool.and_eq_true] at m2
  have m3 := m2 _ hin
  refine ⟨.tuple #[a.tr e, v.tr e], .inr (.inl ?_), ?_, ?_⟩
  · simp only [V.tr, List.map_cons, List.map_nil, ha5, hv5]
  · show (C.rf _ ca && (C.rf _ cv && true)) = true
    rw [ha6 _ (V.rk_rf m3.1), hv6 _ (V.rk_rf m3.2)]; rfl
  · have e1 : a'.eval x = .pointer (some ⟨(e.σ q).1, 0, none⟩) := by rw [← adr0 g0]; exact e1
    have hbk2 : seen.toArray.back? = some b := by rw [lastN_eq] at hb; simpa using hb
    have hf2 : (es.map (entT e)).toArray.find? (fun x => x.born == b) = some (entT e (a, v, b)) := by simpa using hfind e
    have hgo : (getObj (e.σ q).1).run P w = .ok (.mapIter (some (e.σ m).1) since seen.toArray ck) w := by
      have g1 : w.heap[(e.σ q).1]? = some (.mapIter (some (e.σ m).1) since seen.toArray ck) := g1
      simp [getObj, Sem.run, g1]
    simp only [execOp, ho, e1, Instr.entry, Sem.run_bind, hgo, Result.andThen_ok, hbk2, MapKept.run_getObj_map m1, bne_self_eq_false, Bool.false_eq_true, if_false, hf2]
    simp [entT]
end
structure AgrF (f : Pth → Bool) (e e' : Env) : Prop where
  σ : ∀ r, f r = true → e'.σ r = e.σ r
  δ : ∀ r, f r = true → e'.δ r = e.δ r
  ρ : e'.ρ = e.ρ
  β : e'.β = e.β
section
variable {f : Pth → Bool} {e e' : Env} (A : AgrF f e e')
include A
theorem AgrF.s {s : S} (h : s.rf f = true) : s.tr e' = s.tr e := by
  cases s with
  | i k x => simp only [S.tr, vl, A.ρ, A.β]
  | p r o => simp only [S.tr, adr, A.σ r h]
  | sl r o a c => simp only [S.tr, adr, cpT, A.σ r h, A.δ r h]
  | fn g cs =>
    simp only [S.rf, List.all_eq_true] at h
    simp only [S.tr]
    congr 2
    exact List.map_congr_left fun x hx => by simp only [adr, A.σ x.1 (h x hx)]
  | fm g q r o => simp only [S.tr, adr, A.σ r h]
  | mp r => simp only [S.tr, A.σ r h]
  | yl r => simp only [S.tr, A.σ r h]
  | sg r n => simp only [S.tr, adr, A.σ r h, A.ρ]
  | _ => rfl
theorem AgrF.trs {xs : List S} (h : xs.all (S.rf f) = true) : E.trs e' xs = E.trs e xs := by
  simp only [List.all_eq_true] at h
  simp only [E.trs]
  rw [List.map_congr_left fun x hx => A.s (h x hx)]
theorem AgrF.c {c : C} (h : c.rf f = true) : c.tr e' = c.tr e := by
  cases c with
  | s x => exact A.s h
  | agg xs => simp only [C.tr, A.trs h]
theorem AgrF.v {v : V} (h : v.rf f = true) : v.tr e' = v.tr e := by
  cases v with
  | s x =>
    rcases V.rf_iff.1 h with (⟨k, n, rfl⟩ | rfl) | h
    · simp only [V.tr, S.tr, vl, A.ρ, A.β]
    · rfl
    · exact A.s h
  | agg xs => simp only [V.tr, A.trs h]
  | tup cs =>
    simp only [V.rf, List.all_eq_true] at h
    simp only [V.tr]
    congr 2
    exact List.map_congr_left fun x hx => A.c (h x hx)
  | u => rfl
end
theorem lay_agrF {e : Env} {f : Pth → Bool} {p : Pth} (hp : f p = false) (x : Nat × Nat) (d : Nat) : AgrF f e (e.lay p x d) := by
  have : ∀ r, f r = true → r ≠ p := fun r hr c => by rw [c, hp] at hr; cases hr
  exact ⟨fun r hr => if_neg (this r hr), fun r hr => if_neg (this r hr), rfl, rfl⟩
structure More (w w' : World) : Prop where
  size : w'.heap.size = w.heap.size + 1
  old : ∀ b, b < w.heap.size → w'.heap[b]? = w.heap[b]?
  os : w'.os = w.os
  tape : w'.tape = w.tape
  output : w'.output = w.output
theorem More.alloc (w : World) (o : Obj) : More w (w.alloc o) :=
  ⟨by simp, fun b hb => Go.RowKit.Below.heap_alloc _ _ _ hb, rfl, rfl, rfl⟩
theorem okB_c {e : Env} {w : World} {p : Pth} {cs : List S} {T : TypeId} (d : Nat) (h : (e.lay p (w.heap.size, 0) d).σ p = (w.heap.size, 0)) (ht : trs (e.lay p (w.heap.size, 0) d) cs = trs e cs) :
    OkB (e.lay p (w.heap.size, 0) d) (w.alloc (.cells (trs e cs) T)) p (.c cs) := by
  have hadr : ∀ i, adr (e.lay p (w.heap.size, 0) d) p i = ⟨w.heap.size, i, none⟩ := fun i => by simp [adr, h]
  refine ⟨by rw [h]; simp, fun i s hi => ?_, fun i hi => ?_⟩
  · rw [hadr, World.cell?_alloc_new, ← ht, trs_get, hi]; rfl
  · rw [hadr, World.cell?_alloc_new, World.frozen?_alloc_new]
    refine ⟨?_, rfl⟩
    rw [Array.getElem?_eq_getElem (by rw [trs_size]; exact hi)]; rfl
def Makes (Y : Lay) (P : Program) (o : Oper) (op : J) : Prop :=
  ∀ cal t h k r, exJ op cal t h k = some r → ∃ (v : Pth → V) (x : B), (∀ cal h k, exJ op cal t h k = k (v h.n) (h.push x)) ∧ x ≠ .dd ∧ (∀ p f, f p = true → (v p).rf f = true) ∧
    ∀ e f a, OT Y e t f a (· ∈ o.op.operands) → x.rf f = true ∧ ∀ w p, f p = false → ∃ y w' d, (execOp a.eval o).run P w = .ok (.value y) w' ∧ More w w' ∧ Is (e.lay p (w.heap.size, 0) d) (v p) y ∧ OkB (e.lay p (w.heap.size, 0) d) w' p x
section
variable {Y : Lay} {P : Program} {o : Oper}
theorem lay_adr (e : Env) (p : Pth) (n d i : Nat) : adr (e.lay p (n, 0) d) p i = ⟨n, i, none⟩ := by simp [adr, lay_σ]
theorem makes_new {T : TypeId} {z : List S} (ho : o.op = .alloc T) (hz : zeroOf P T = some z) : Makes Y P o (.new z) := by
  intro cal t h k r hr
  refine ⟨fun p => .s (.p p 0), .c z, fun cal h k => Hp.pushK_eq h _ _, by simp, fun p f hf => hf, fun e f a hT => ?_⟩
  obtain ⟨i, v, hi, hiz, hcells, hvz, _⟩ := zeroOf_run hz e
  refine ⟨hvz f, fun w p hp => ⟨.pointer (some ⟨w.heap.size, 0, none⟩), w.alloc (.cells (trs e z) T), 0, ?_, .alloc _ _, .inl ?_, ?_⟩⟩
  · simp [execOp, ho, Instr.alloc, zeroValue, typeInfo, hi, hiz, newVar, newRow, hcells]
  · simp only [V.tr, S.tr, lay_adr]
  · exact okB_c 0 (lay_σ _ _ _ _) ((lay_agrF hp _ _).trs (hvz f))
theorem makes_box {T : TypeId} {x : Operand} {y : O} (ho : o.op = .box T x) (hx : compX Y x = some y) : Makes Y P o (.box y) := by
  intro cal t h k r hr
  obtain ⟨k1, k2, k3, k4⟩ := asC_out (show asC (ev t y) (fun vs => h.pushK (.c vs) fun h' => k (.s (.p h.n 0)) h') = some r from hr)
  refine ⟨fun p => .s (.p p 0), .c (ev t y).cs, fun cal h k => (k4 (fun vs => h.pushK (.c vs) fun h' => k (.s (.p h.n 0)) h')).trans (Hp.pushK_eq h _ _), by simp, fun p f hf => hf, fun e f a hT => ?_⟩
  obtain ⟨e1, e2⟩ := ev_eq hT (x := x) (by simp [ho, Op.operands]) hx rfl (pl_u k1) (pl_nU k1 k2)
  have hcs := cs_rf k1 k2 e2
  refine ⟨hcs, fun w p hp => ⟨.pointer (some ⟨w.heap.size, 0, none⟩), w.alloc (.cells (trs e (ev t y).cs) T), 0, ?_, .alloc _ _, .inl ?_, ?_⟩⟩
  · simp [execOp, ho, Instr.box, newVar, newRow, e1, cells_tr k1 e]
  · simp only [V.tr, S.tr, lay_adr]
  · exact okB_c 0 (lay_σ _ _ _ _) ((lay_agrF hp _ _).trs hcs)
theorem makes_mkmap {T : TypeId} (ho : o.op = .makeMap T none) : Makes Y P o .mkmap := by
  intro cal t h k r hr
  refine ⟨fun p => .s (.mp p), .mp [] 0, fun cal h k => Hp.pushK_eq h _ _, by simp, fun p f hf => hf, fun e f a hT => ⟨rfl, fun w p hp => ⟨.map (some w.heap.size), w.alloc (.map #[] 0), 0, ?_, .alloc _ _, .inl ?_, ?_⟩⟩⟩
  · simp [execOp, ho, Instr.makeMap]
  · simp only [V.tr, S.tr, lay_σ]
  · show (w.alloc (.map #[] 0)).heap[((e.lay p (w.heap.size, 0) 0).σ p).1]? = _
    rw [lay_σ]
    exact (MapKept.heap_alloc w _).1
theorem zerosS_length (z : List S) : ∀ n, (zerosS z n).length = n * z.length
  | 0 => by simp [zerosS_zero]
  | n + 1 => by rw [zerosS_succ, List.length_append, zerosS_length z n, Nat.add_mul]; omega
theorem zerosL_eq (z : List S) : ∀ n, compI.zerosL z n = zerosS z n
  | 0 => rfl
  | n + 1 => by rw [compI.zerosL, zerosL_eq z n, zerosS_succ]
theorem zerosS_get (z : List S) (hz : z ≠ []) : ∀ (n j : Nat), j < n * z.length → (zerosS z n)[j]? = z[j % z.length]?
  | 0, j, h => by simp at h
  | n + 1, j, h => by
    rw [zerosS_succ]
    have hl : 0 < z.length := List.length_pos_iff.2 hz
    by_cases hj : j < z.length
    · rw [List.getElem?_append_left hj, Nat.mod_eq_of_lt hj]
    · rw [List.getElem?_append_right (by omega), zerosS_get z hz n (j - z.length) (by rw [Nat.add_mul] at h; omega)]
      congr 1
      rw [Nat.mod_eq_sub_mod (by omega : j ≥ z.length)]
theorem zerosS_trs (e : Env) (z : List S) (hz : z ≠ []) (n : Nat) : (Array.range (n * z.length)).map (fun j => (trs e z)[j % (trs e z).size]!) = trs e (zerosS z n) := by
  have hl : 0 < z.length := List.length_pos_iff.2 hz
  apply Array.ext
  · simp [trs, zerosS_length]
  · intro j h1 h2
    simp only [Array.size_map, Array.size_range] at h1
    have hg := zerosS_get z hz n j h1
    have hm : j % z.length < z.length := Nat.mod_lt _ hl
    have h3 : j < (zerosS z n).length := by rw [zerosS_length]; exact h1
    rw [List.getElem?_eq_getElem h3, List.getElem?_eq_getElem hm] at hg
    simp only [Option.some.injEq] at hg
    simp only [Array.getElem_map, Array.getElem_range, trs_size]
    rw [getElem!_pos _ _ (by rw [trs_size]; exact hm)]
    simp [trs, hg]
theorem zerosS_rf {z : List S} {f : Pth → Bool} (hz : z.all (S.rf f) = true) : ∀ n, (zerosS z n).all (S.rf f) = true
  | 0 => by rw [zerosS_zero]; rfl
  | n + 1 => by rw [zerosS_succ, List.all_append, hz, zerosS_rf hz n]; rfl
theorem makes_bsl {T el : TypeId} {n : Nat} {parts : Array (Nat × Operand)} {i : TypeInfo} {z : List S} {qs : List (Nat × Nat × O)} (ho : o.op = .buildSlice T n parts)
    (hu : P.underlying T = some (.slice el)) (hi : P.info? el = some i) (hz : zeroOf P el = some z) (hn24 : n * i.size ≤ 2 ^ 24) (hsz : i.size ≠ 0)
    (hq : partsOf Y (fun j => some (j * i.size, i.size)) parts.toList = some qs) : Makes Y P o (.bsl n (compI.zerosL z n) qs) := by
  rw [zerosL_eq]
  intro cal t h k r hr
  obtain ⟨z', h1, h2, _, h3⟩ := fill_out (place' := fun j => some (j * i.size, i.size)) (fun _ _ h => h) hq (show fillK t qs (zerosS z n) _ = some r from hr)
  have hnG : n < G := by
    have : n * 1 ≤ n * i.size := Nat.mul_le_mul_left _ (by omega)
    unfold G; omega
  refine ⟨fun p => .s (.sl p 0 n n), .c z', fun cal h k => (h2 _).trans (Hp.pushK_eq h _ _), by simp, fun p f hf => hf, fun e f a hT => ?_⟩
  obtain ⟨k, v, hk, hiz, hcells, hvz, hzl⟩ := zeroOf_run hz e
  have hki : k = i := by rw [hk] at hi; cases hi; rfl
  rw [hki] at hk hiz hzl
  clear hki
  have hzne : z ≠ [] := by intro e; rw [e] at hzl; simp at hzl; omega
  obtain ⟨f1, f2⟩ := h3 hT (fun x hx => by simp only [ho, Op.operands]; simp; exact ⟨x.1, by simpa using hx⟩) (zerosS_rf (hvz f) n)
  refine ⟨f2, fun w p hp => ⟨.slice (some ⟨w.heap.size, 0, none⟩) n n, w.alloc (.cells (trs e z') el), 0, ?_, .alloc _ _, .inl ?_, ?_⟩⟩
  · have h24 : ¬ (2 ^ 24 < n * i.size) := by omega
    by_cases h0 : n * i.size = 0
    · have hn0 : n = 0 := by rcases Nat.mul_eq_zero.1 h0 with h | h; exact h; exact absurd h hsz
      subst hn0
      have f1' : Instr.fill (fun j => some (j * i.size, i.size)) #[] (parts.toList.map fun x => (x.1, a.eval x.2)) = some (trs e z') := f1
      simp [execOp, ho, Instr.buildSlice, run_underlying hu, sizeOf, typeInfo, hi, f1', newRow, Array.range_zero']
    · have f1' := f1
      rw [← zerosS_trs e z hzne n, hzl] at f1'
      simp [execOp, ho, Instr.buildSlice, run_underlying hu, sizeOf, typeInfo, hi, h24, h0, zeroValue, hiz, hcells, f1', newRow]
  · simp only [V.tr, S.tr, lay_adr, cpT, if_pos hnG]
  · exact okB_c 0 (lay_σ _ _ _ _) ((lay_agrF hp _ _).trs f2)
end
theorem S.oneCell (s : S) (e : Env) : (s.tr e).oneCell' = true := by cases s <;> rfl
structure Wrote (e : Env) (r : Pth) (w w' : World) : Prop where
  size : w'.heap.size = w.heap.size
  old : ∀ b, b ≠ (e.σ r).1 → w'.heap[b]? = w.heap[b]?
  frozen : ∀ a, w'.frozen? a = w.frozen? a
  os : w'.os = w.os
  tape : w'.tape = w.tape
  output : w'.output = w.output
theorem storeCells_run {P : Program} {e : Env} {r : Pth} (o : Nat) : ∀ (vs : List S) (i : Nat) (w : World), (∀ j, j < vs.length → (w.cell? (adr e r (o + i + j))).isSome = true ∧ w.frozen? (adr e r (o + i + j)) = false) →
    ∃ w', (storeCells (adr e r o) (vs.map (S.tr e)) i).run P w = .ok () w' ∧ Wrote e r w w' ∧ ∀ k, w'.cell? (adr e r k) = if o + i ≤ k ∧ k < o + i + vs.length then (vs[k - (o + i)]?).map (S.tr e) else w.cell? (adr e r k)
  | [], i, w, _ => ⟨w, by simp [storeCells], ⟨rfl, fun _ _ => rfl, fun _ => rfl, rfl, rfl, rfl⟩, fun k => by rw [if_neg (by simp)]⟩
  | v :: vs, i, w, h => by
    obtain ⟨h0, h0f⟩ := h 0 (by simp)
    rw [Nat.add_zero] at h0 h0f
    obtain ⟨u0, hu0⟩ := Option.isSome_iff_exists.1 h0
    have hadd : (adr e r o).add i = adr e r (o + i) := adr_add _ _ _ _
    have hne : ∀ k, k ≠ o + i → adr e r (o + i) ≠ adr e r k := fun k hk => by simp only [adr, ne_eq, Addr.mk.injEq, not_and]; omega
    obtain ⟨w', hr, hW, hc⟩ := storeCells_run (P := P) o vs (i + 1) (w.setCell (adr e r (o + i)) (v.tr e)) (fun j hj => by
      have := h (j + 1) (by simpa using hj)
      rw [show o + (i + 1) + j = o + i + (j + 1) by omega, World.frozen?_setCell]
      refine ⟨?_, this.2⟩
      rw [World.cell?_setCell_other _ _ _ _ (hne _ (by omega))]
      exact this.1)
    refine ⟨w', ?_, ⟨by rw [hW.size, World.size_setCell], fun b hb => ?_, fun a => by rw [hW.frozen, World.frozen?_setCell], hW.os, hW.tape, hW.output⟩, fun k => ?_⟩
    · simp only [List.map_cons, storeCells, Sem.run_bind, hadd, run_store P w _ _ _ (S.oneCell v e), hu0, h0f, Bool.false_eq_true, if_false, Result.andThen_ok]
      exact hr
    · rw [hW.old b hb]
      exact Go.RowKit.Below.heap_setCell _ _ _ _ hb
    · rw [hc k]
      by_cases hk : k = o + i
      · subst hk
        rw [if_neg (by omega), if_pos (by simp), Nat.sub_self, World.cell?_setCell_same _ _ _ hu0]
        rfl
      · rw [World.cell?_setCell_other _ _ _ _ (hne k hk)]
        by_cases h1 : o + i ≤ k ∧ k < o + i + (v :: vs).length
        · simp only [List.length_cons] at h1
          rw [if_pos (by omega), if_pos (by simp only [List.length_cons]; omega), show k - (o + i) = (k - (o + (i + 1))) + 1 by omega]
          rfl
        · simp only [List.length_cons] at h1
          rw [if_neg (by omega), if_neg (by simp only [List.length_cons]; omega)]
theorem put_get : ∀ (vs xs : List S) (o i : Nat), o + vs.length ≤ xs.length → (put xs o vs)[i]? = if o ≤ i ∧ i < o + vs.length then vs[i - o]? else xs[i]?
  | [], xs, o, i, _ => by rw [put, if_neg (by simp)]
  | v :: vs, xs, o, i, h => by
    simp only [List.length_cons] at h
    rw [put, put_get vs (xs.set o v) (o + 1) i (by simp; omega)]
    by_cases hi : i = o
    · subst hi
      rw [if_neg (by omega), if_pos (by simp), Nat.sub_self, List.getElem?_set_self (by omega)]
      rfl
    · by_cases h1 : o ≤ i ∧ i < o + (v :: vs).length
      · simp only [List.length_cons] at h1
        rw [if_pos (by omega), if_pos (by simp only [List.length_cons]; omega), show i - o = (i - (o + 1)) + 1 by omega]
        rfl
      · simp only [List.length_cons] at h1
        rw [if_neg (by omega), if_neg (by simp only [List.length_cons]; omega), List.getElem?_set_ne (by omega)]
structure BPut (b : B) (o : Nat) (vs : List S) (b' : B) : Prop where
  rw : b.rw = true
  rw' : b'.rw = true
  rf : ∀ f, b.rf f = true → vs.all (S.rf f) = true → b'.rf f = true
  room : ∀ {e : Env} {w : World} {r : Pth}, OkB e w r b → ∀ j, j < vs.length → (w.cell? (adr e r (o + j))).isSome = true ∧ w.frozen? (adr e r (o + j)) = false
  ok : ∀ {e : Env} {w w' : World} {r : Pth}, OkB e w r b → Wrote e r w w' → (∀ k, w'.cell? (adr e r k) = if o ≤ k ∧ k < o + vs.length then (vs[k - o]?).map (S.tr e) else w.cell? (adr e r k)) → OkB e w' r b'
theorem room_wrote {e : Env} {w w' : World} {r : Pth} {o n m : Nat} {vs : List S} (hR : Room e w r m) (hW : Wrote e r w w') (hc : ∀ k, w'.cell? (adr e r k) = if o ≤ k ∧ k < o + vs.length then (vs[k - o]?).map (S.tr e) else w.cell? (adr e r k)) (hn : n = m) : Room e w' r n := fun i hi => by
  subst hn
  rw [hW.frozen, hc]
  refine ⟨?_, (hR i hi).2⟩
  split
  · rename_i h
    rw [List.getElem?_eq_getElem (by omega)]; rfl
  · exact (hR i hi).1
theorem holds_put {e : Env} {w w' : World} {r : Pth} {o : Nat} {vs cs : List S} (hH : Holds e w r cs) (hle : o + vs.length ≤ cs.length) (hc : ∀ k, w'.cell? (adr e r k) = if o ≤ k ∧ k < o + vs.length then (vs[k - o]?).map (S.tr e) else w.cell? (adr e r k)) : Holds e w' r (put cs o vs) := fun i s hi => by
  rw [put_get vs cs o i hle] at hi
  rw [hc]
  split at hi
  · rename_i h; rw [if_pos h, hi]; rfl
  · rename_i h; rw [if_neg h]; exact hH i s hi
theorem asI_s {β : Type} {v : S} {k : IntKind → Int → Option β} {r : β} (h : asI (.s v) k = some r) : ∃ kd n, v = .i kd n ∧ k kd n = some r := by
  obtain ⟨kd, n, hv, h⟩ := asI_some h
  cases hv
  exact ⟨kd, n, rfl, h⟩
theorem wsN_out {β : Type} {k : IntKind} {D : Nat} : ∀ {vs : List S} {d : Wt} {o : Nat} {c : Wt → Option β} {r : β}, wsN k vs d o c = some r → ∃ d', c d' = some r ∧ (∀ {γ : Type} (c : Wt → Option γ), wsN k vs d o c = c d') ∧ (∀ f, d.kns = true → vs.all (S.rf f) = true → d'.kns = true) ∧
    (d.deep D → o + vs.length ≤ 2 ^ D → d'.deep D ∧ ∀ e i, i < 2 ^ D → some (Value.int k (vl e (wg d' i))) = if o ≤ i ∧ i < o + vs.length then (vs[i - o]?).map (S.tr e) else some (.int k (vl e (wg d i))))
  | [], d, o, c, r, h => ⟨d, h, fun _ => rfl, fun _ h _ => h, fun hd _ => ⟨hd, fun e i _ => by rw [if_neg (by simp)]⟩⟩
  | v :: vs, d, o, c, r, h => by
    obtain ⟨kd, x, rfl, h⟩ := asI_s (show asI (.s v) (fun k' x => onB (kEq k k') (wsK d o x fun d => wsN k vs d (Nat.succ o) c) none) = some r from h)
    obtain ⟨hk, h⟩ := onB_t h
    rw [wsK_eq] at h
    obtain ⟨d', h1, h2, h3, h4⟩ := wsN_out (D := D) h
    obtain rfl := kEq_t hk
    refine ⟨d', h1, fun c => ?_, fun f hd hv => ?_, fun hd hle => ?_⟩
    · show asI (.s (.i k x)) (fun k' x => onB (kEq k k') (wsK d o x fun d => wsN k vs d (Nat.succ o) c) none) = _
      rw [e_asI, hk, e_t, wsK_eq]; exact h2 c
    · simp only [List.all_cons, Bool.and_eq_true] at hv
      exact h3 f (kns_wst hd hv.1) hv.2
    · simp only [List.length_cons] at hle
      obtain ⟨i1, i2⟩ := h4 (wst_deep hd) (by show o + 1 + vs.length ≤ _; omega)
      refine ⟨i1, fun e i hi => ?_⟩
      rw [i2 e i hi]
      simp only [Nat.succ_eq_add_one]
      by_cases hio : i = o
      · subst hio
        rw [if_neg (by omega), if_pos (by simp), wg_wst x hd (by omega) hi, if_pos rfl, Nat.sub_self]
        rfl
      · by_cases hc : o ≤ i ∧ i < o + (S.i k x :: vs).length
        · simp only [List.length_cons] at hc
          rw [if_pos (by omega), if_pos (by simp only [List.length_cons]; omega), show i - o = (i - (o + 1)) + 1 by omega]
          rfl
        · simp only [List.length_cons] at hc
          rw [if_neg (by omega), if_neg (by simp only [List.length_cons]; omega), wg_wst x hd (by omega) hi, if_neg hio]
theorem st1_out {β : Type} {b : B} {o : Nat} {vs : List S} {c : B → Option β} {r : β} (h : st1 b o vs c = some r) : ∃ b', c b' = some r ∧ (∀ {γ : Type} (c : B → Option γ), st1 b o vs c = c b') ∧ BPut b o vs b' := by
  cases b <;> first | (cases h; done) | skip
  · rename_i cs
    obtain ⟨cs', hc, h⟩ := onO_some (show onO (ptF cs o vs) _ = some r from h)
    have hc' := hc
    rw [ptF_eq] at hc'
    obtain ⟨rfl, hle⟩ := ptS_put hc'
    refine ⟨_, h, fun c => ?_, rfl, rfl, fun f hf hv => all_put _ _ _ hf hv, fun {e w r} hO j hj => hO.2.2 _ (by omega), fun {e w w' r} hO hW hcl => ?_⟩
    · show onO (ptF cs o vs) _ = _
      rw [hc, e_o]
    · exact ⟨by rw [hW.size]; exact hO.1, holds_put hO.2.1 hle hcl, room_wrote (vs := vs) hO.2.2 hW hcl (put_length _ _ _)⟩
  · rename_i cs m es
    obtain ⟨cs', hc, h⟩ := onO_some (show onO (ptF cs o vs) _ = some r from h)
    have hc' := hc
    rw [ptF_eq] at hc'
    obtain ⟨rfl, hle⟩ := ptS_put hc'
    refine ⟨_, h, fun c => ?_, rfl, rfl, fun f hf hv => all_put _ _ _ hf hv, fun {e w r} hO j hj => hO.2.2.2 _ ?_, fun {e w w' r} hO hW hcl => ?_⟩
    · show onO (ptF cs o vs) _ = _
      rw [hc, e_o]
    · have := hO.2.2.1
      have : m * es ≤ (m + e.δ r) * es := Nat.mul_le_mul_right _ (by omega)
      omega
    · exact ⟨by rw [hW.size]; exact hO.1, holds_put hO.2.1 hle hcl, by rw [put_length]; exact hO.2.2.1, room_wrote (vs := vs) hO.2.2.2 hW hcl rfl⟩
  · rename_i k m D d
    have h : lenF vs (fun n => onB (Nat.ble (Nat.add o n) m) (wsN k vs d o fun d => c (.w k m D d)) none) = some r := h
    rw [lenF_eq] at h
    obtain ⟨hb, h⟩ := onB_t h
    have hle : o + vs.length ≤ m := nat_le hb
    obtain ⟨d', h1, h2, h3, h4⟩ := wsN_out (D := D) h
    refine ⟨_, h1, fun c => ?_, rfl, rfl, fun f hf hv => h3 f hf hv, fun {e w r} hO j hj => hO.2.2.1 _ (by omega), fun {e w w' r} hO hW hcl => ?_⟩
    · show lenF vs (fun n => onB (Nat.ble (Nat.add o n) m) (wsN k vs d o fun d => c (.w k m D d)) none) = _
      rw [lenF_eq, hb, e_t]; exact h2 _
    · obtain ⟨g1, g2, g3, g4, g5⟩ := hO
      obtain ⟨i1, i2⟩ := h4 g4 (by omega)
      refine ⟨by rw [hW.size]; exact g1, fun i hi => ?_, room_wrote (vs := vs) g3 hW hcl rfl, i1, g5⟩
      rw [hcl, i2 e i (by omega), g2 i hi]
theorem allF_t {α : Type} {p : α → Bool} {l : List α} (h : allF p l = true) : ∀ x ∈ l, p x = true := by
  rw [allF_eq] at h
  simpa [List.all_eq_true] using h
theorem widK_out {β : Type} {h : Hp} {r : Pth} {vs : List S} {c : Hp → Option β} {q : β} (hq : widK h r vs c = some q) : ∃ h', c h' = some q ∧ (∀ {γ : Type} (c : Hp → Option γ), widK h r vs c = c h') ∧ (∀ {e w}, Rel e h w → Step e h w e h' w) ∧ h'.b = h.b ∧ h'.n = h.n ∧ h'.df = h.df ∧
    (vs.all (S.rf (Pth.ok h.n.n)) = true → vs.all (S.rf (esc r.n h'.er h'.eq)) = true) := by
  rcases onB_some (show onB (allF nrf vs) (c h) (onB (allF (S.rf fun q => Nat.ble q.n r.n) vs) (c h) (h.wideK r c)) = some q from hq) with ⟨h1, hq⟩ | ⟨h1, hq⟩
  · refine ⟨h, hq, fun c => ?_, fun H => .refl H, rfl, rfl, rfl, fun _ => ?_⟩
    · show onB (allF nrf vs) _ _ = _
      rw [h1, e_t]
    · rw [List.all_eq_true]
      exact fun x hx => nrf_rf _ (allF_t h1 x hx)
  · rcases onB_some hq with ⟨h2, hq⟩ | ⟨h2, hq⟩
    · refine ⟨h, hq, fun c => ?_, fun H => .refl H, rfl, rfl, rfl, fun _ => ?_⟩
      · show onB (allF nrf vs) _ (onB _ _ _) = _
        rw [h1, e_f, h2, e_t]
      · rw [List.all_eq_true]
        intro x hx
        refine S.rf_mono (fun p hp => ?_) (allF_t h2 x hx)
        simp only [esc, hp, Bool.true_or]
    · rw [Hp.wideK_eq] at hq
      refine ⟨h.wide r, hq, fun c => ?_, fun H => .wide H r, rfl, rfl, rfl, fun hv => ?_⟩
      · show onB (allF nrf vs) _ (onB _ _ _) = _
        rw [h1, e_f, h2, e_f, Hp.wideK_eq]
      · rw [List.all_eq_true] at hv ⊢
        intro x hx
        refine S.rf_mono (fun p hp => ?_) (hv x hx)
        have hp := Pth.ok_iff.1 hp
        simp only [esc, Hp.wide, Bool.or_eq_true, Bool.and_eq_true, Nat.ble_eq]
        exact .inr ⟨Nat.min_le_right _ _, by omega⟩
theorem storeK_out {β : Type} {h : Hp} {r : Pth} {o n : Nat} {vs : List S} {c : Hp → Option β} {q : β} (hq : storeK h r o n vs c = some q) : ∃ h1, c h1 = some q ∧ (∀ {γ : Type} (c : Hp → Option γ), storeK h r o n vs c = c h1) ∧ vs.length = n ∧ h1.df = h.df ∧ h1.n = h.n ∧
    ∀ {P : Program} {e : Env} {w : World}, Rel e h w → r.ok h.n.n = true → vs.all (S.rf (Pth.ok h.n.n)) = true → ∃ w', (storeCells (adr e r o) (vs.map (S.tr e))).run P w = .ok () w' ∧ Step e h w e h1 w' := by
  have hq : lenF vs (fun l => onB (Nat.beq l n) (st1 (h.gb r) o vs fun b => widK h r vs fun h => h.setK r b c) none) = some q := hq
  rw [lenF_eq] at hq
  obtain ⟨hb, hq⟩ := onB_t hq
  obtain ⟨b', hq, h2, hB⟩ := st1_out hq
  obtain ⟨h', hq, w2, w3, w4, w5, w6, w7⟩ := widK_out hq
  rw [Hp.setK_eq] at hq
  refine ⟨h'.set r b', hq, fun c => ?_, nat_eq hb, w6, w5, fun {P e w} H hr hv => ?_⟩
  · show lenF vs (fun l => onB (Nat.beq l n) (st1 (h.gb r) o vs fun b => widK h r vs fun h => h.setK r b c) none) = _
    rw [lenF_eq, hb, e_t, h2, w2, Hp.setK_eq]
  · obtain ⟨g1, g2⟩ := H.gb hr
    obtain ⟨w', s1, s2, s3⟩ := storeCells_run (P := P) o vs 0 w (e := e) (r := r) (fun j hj => by rw [Nat.add_zero]; exact hB.room g1 j hj)
    simp only [Nat.add_zero] at s3
    have W := w3 H
    have hat : h'.at r = h.gb r := by rw [Hp.gb_eq]; unfold Hp.at; rw [w4]
    have hr' : r.n < h'.n.n := by rw [w5]; exact Pth.ok_iff.1 hr
    refine ⟨w', s1, W.trans (Step.upd W.rel hr' (by rw [hat]; exact hB.rw) (hB.ok g1 s2 s3) ?_ ?_ s2.old (by rw [s2.size]; exact Nat.le_refl _) s2.os s2.tape s2.output)⟩
    · rw [w5]; exact hB.rf _ g2 hv
    · have := W.rel.esc r hr'
      rw [hat] at this
      exact hB.rf _ this (w7 hv)
def Acts (Y : Lay) (P : Program) (o : Oper) (op : J) : Prop :=
  ∀ cal t h k r, exJ op cal t h k = some r → ∃ v h1, (∀ cal k, exJ op cal t h k = k v h1) ∧ h1.df = h.df ∧
    ∀ e a w, OT Y e t (Pth.ok h.n.n) a (· ∈ o.op.operands) → Rel e h w → ∃ nx x w' e', (execOp a.eval o).run P w = .ok nx w' ∧ ((nx = .value x) ∨ (nx = .skip ∧ x = undef)) ∧ Step e h w e' h1 w' ∧ Isu e' v x ∧ v.ok h1.n.n = true
section
variable {Y : Lay} {P : Program} {o : Oper}
theorem Looks.acts {op : J} (H : Looks Y P o op) : Acts Y P o op := fun cal t h k r hr => by
  obtain ⟨v, h1, h2⟩ := H cal t h k r hr
  refine ⟨v, h, h1, rfl, fun e a w hT hR => ?_⟩
  obtain ⟨x, i1, i2, i3⟩ := h2 e a w hT hR
  exact ⟨_, x, w, e, i3, .inl rfl, .refl hR, i1, i2⟩
theorem Makes.acts {op : J} (H : Makes Y P o op) : Acts Y P o op := fun cal t h k r hr => by
  obtain ⟨v, x, h1, hd, h2, h3⟩ := H cal t h k r hr
  refine ⟨v h.n, h.push x, fun cal k => h1 cal h k, rfl, fun e a w hT hR => ?_⟩
  obtain ⟨i1, i2⟩ := h3 e _ a hT
  obtain ⟨y, w', d, j1, j2, j3, j4⟩ := i2 w h.n (by
    cases hq : Pth.ok h.n.n h.n with
    | false => rfl
    | true => have := Pth.ok_iff.1 hq; omega)
  refine ⟨_, y, w', e.lay h.n (w.heap.size, 0) d, j1, .inl rfl, Step.new hR _ d j4 i1 j2.old (Nat.le_refl _) (by have := j2.size; omega) j2.os j2.tape j2.output, .inr j3, h2 _ _ ?_⟩
  rw [Pth.ok_iff, Hp.n_push]; omega
theorem undef_is {e : Env} : Isu e vu undef := .inr (.inl rfl)
theorem isU_some {v : V} (h : isU v = true) : ∃ n, v = .s (.i .i64 n) ∧ kn n = false := by
  cases v <;> first | (cases h; done) | skip
  rename_i s
  cases s <;> first | (cases h; done) | skip
  rename_i k n
  have h : (Bool.rec (kEq k .i64) false (kn n) : Bool) = true := h
  cases hk : kn n with
  | true => rw [hk] at h; cases h
  | false => rw [hk] at h; exact ⟨n, by rw [kEq_t h], hk⟩
theorem acts_st {T : TypeId} {x y : Operand} {x' y' : O} {i : TypeInfo} (ho : o.op = .store T x y) (hi : P.info? T = some i) (hx : compX Y x = some x') (hy : compX Y y = some y') : Acts Y P o (.st x' y' i.size) := by
  intro cal t h k r hr
  obtain ⟨q, off, hq, hr⟩ := asP_some (show asP (ev t x') _ = some r from hr)
  have hev : ∀ cal k, exJ (.st x' y' i.size) cal t h k = Bool.casesOn (isU (ev t y')) (asC (ev t y') fun vs => storeK h q off i.size vs fun h => k vu h) (onB (and (Nat.beq off 1) (Nat.beq i.size 1)) (cuK (h.gb q) (k vu h)) none) := fun cal k => by
    show asP (ev t x') _ = _
    rw [hq, e_asP]
  have hr : (Bool.rec (asC (ev t y') fun vs => storeK h q off i.size vs fun h => k vu h) (onB (and (Nat.beq off 1) (Nat.beq i.size 1)) (cuK (h.gb q) (k vu h)) none) (isU (ev t y')) : Ans) = some r := hr
  cases hU : isU (ev t y') with
  | false =>
    rw [hU] at hr
    obtain ⟨k1, k2, k3, k4⟩ := asC_out (show asC (ev t y') (fun vs => storeK h q off i.size vs fun h => k vu h) = some r from hr)
    obtain ⟨h1, s1, s2, s3, s4, s5, s6⟩ := storeK_out k3
    refine ⟨vu, h1, fun cal k => ?_, s4, fun e a w hT H => ?_⟩
    · rw [hev, hU]
      show asC (ev t y') _ = _
      rw [k4, s2]
    obtain ⟨e1, e2⟩ := ev_eq hT (x := x) (by simp [ho, Op.operands]) hx hq (by simp) rfl
    obtain ⟨f1, f2⟩ := ev_eq hT (x := y) (by simp [ho, Op.operands]) hy rfl (pl_u k1) (pl_nU k1 k2)
    obtain ⟨w', g1, g2⟩ := s6 (P := P) H e2 (cs_rf k1 k2 f2)
    refine ⟨.skip, undef, w', e, ?_, .inr ⟨rfl, rfl⟩, g2, undef_is, rfl⟩
    have hsz : ((ev t y').tr e).cells.size = i.size := by rw [cells_tr k1 e, trs_size, s3]
    have hr' : (storeCells (adr e q off) ((ev t y').tr e).cells.toList 0).run P w = .ok () w' := by
      rw [cells_tr k1 e]; simpa [trs] using g1
    have e1 : a.eval x = .pointer (some (adr e q off)) := e1
    simp [execOp, ho, e1, f1, Instr.storeAt, Instr.sureAddr, storeVar, sizeOf, typeInfo, hi, hsz, hr']
  | true =>
    rw [hU] at hr
    obtain ⟨hb, hr⟩ := onB_t (show onB (and (Nat.beq off 1) (Nat.beq i.size 1)) (cuK (h.gb q) (k vu h)) none = some r from hr)
    obtain ⟨b1, b2⟩ := and_t hb
    have b1 := nat_eq b1
    have b2 := nat_eq b2
    cases hg : h.gb q <;> rw [hg] at hr <;> first | (cases hr; done) | skip
    rename_i s
    obtain ⟨n, hn, hkn⟩ := isU_some hU
    refine ⟨vu, h, fun cal k => ?_, rfl, fun e a w hT H => ?_⟩
    · rw [hev, hU]
      show onB (and (Nat.beq off 1) (Nat.beq i.size 1)) (cuK (h.gb q) (k vu h)) none = _
      rw [hb, e_t, hg]; rfl
    obtain ⟨e1, e2⟩ := ev_eq hT (x := x) (by simp [ho, Op.operands]) hx hq (by simp) rfl
    obtain ⟨m, f1⟩ := ev_int hT (x := y) (by simp [ho, Op.operands]) hy hn
    obtain ⟨g1, g2⟩ := H.gb (r := q) e2
    rw [hg] at g1
    obtain ⟨g1, g3, ⟨n0, g4⟩, g5⟩ := g1
    have hat : h.at q = .cu s := by rw [← Hp.gb_eq, hg]
    have e1 : a.eval x = .pointer (some (adr e q 1)) := by rw [← b1]; exact e1
    have hne : adr e q 1 ≠ adr e q 0 := by simp [adr]
    have U : Step e h w e (h.set q (.cu s)) (w.setCell (adr e q 1) (.int .i64 m)) := by
      refine Step.upd H (Pth.ok_iff.1 e2) (by rw [hat]; rfl) ⟨by rw [World.size_setCell]; exact g1, ?_, ⟨m, World.cell?_setCell_same _ _ _ g4⟩, fun i hi => ?_⟩ (by rw [← hat]; exact H.val q (Pth.ok_iff.1 e2)) (by rw [← hat]; exact H.esc q (Pth.ok_iff.1 e2))
        (fun b hb => Go.RowKit.Below.heap_setCell _ _ _ _ hb) (by rw [World.size_setCell]; exact Nat.le_refl _) rfl rfl rfl
      · rw [World.cell?_setCell_other _ _ _ _ hne]; exact g3
      · rw [World.frozen?_setCell]
        refine ⟨?_, (g5 i hi).2⟩
        by_cases hi1 : i = 1
        · subst hi1; rw [World.cell?_setCell_same _ _ _ g4]; rfl
        · rw [World.cell?_setCell_other _ _ _ _ (by simp only [adr, ne_eq, Addr.mk.injEq, not_and]; omega)]; exact (g5 i hi).1
    have hsame : ∀ p, (h.set q (.cu s)).at p = h.at p := fun p => by
      rw [Hp.at_set]; split
      · rename_i e; rw [e, hat]
      · rfl
    refine ⟨.skip, undef, w.setCell (adr e q 1) (.int .i64 m), e, ?_, .inr ⟨rfl, rfl⟩, ?_, undef_is, rfl⟩
    · have hst : (storeCells (adr e q 1) [Value.int .i64 m] 0).run P w = .ok () (w.setCell (adr e q 1) (.int .i64 m)) := by
        have hadd : (adr e q 1).add 0 = adr e q 1 := adr_add _ _ _ _
        have hrs := run_store P w (adr e q 1) (.int .i64 m) .plain rfl
        rw [g4, (g5 1 (by omega)).2] at hrs
        simp only [Bool.false_eq_true, if_false] at hrs
        simp [storeCells, hadd, hrs]
      simp [execOp, ho, e1, f1, Instr.storeAt, Instr.sureAddr, storeVar, sizeOf, typeInfo, hi, b2, Value.cells, hst]
    · refine ⟨⟨fun p hp => ?_, fun p p' hp hp' hne => ?_, H.val, H.esc⟩, rfl, rfl, U.agr, Nat.le_refl _, U.os, U.tape, U.output, U.size, U.keep, fun p hp hw => ?_, fun p hp hw => ?_⟩
      · have := U.rel.ok p hp; rw [hsame] at this; exact this
      · have := U.rel.sep p p' hp hp' hne; rw [hsame, hsame] at this; exact this
      · have := U.mine p hp; rw [hsame] at this; exact this hw
      · have := U.nd p hp; rw [hsame] at this
        rcases this hw with ⟨q2, k1, k2, k3⟩ | k
        · exact .inl ⟨q2, k1, k2, k3⟩
        · exact .inr k
end
theorem mksB_out (z : List S) (c : Nat) : mksB z c = .c (zerosS z c) ∨ ∃ k, z = [.i k 0] ∧ mksB z c = .w k c (Nat.succ (Nat.log2 c)) (wmk 0 (Nat.succ (Nat.log2 c))) := by
  cases z with
  | nil => exact .inl rfl
  | cons s l =>
    cases l with
    | cons _ _ => exact .inl rfl
    | nil =>
      cases s <;> first | exact .inl rfl | skip
      rename_i k n
      have h : mksB [.i k n] c = Bool.casesOn (and (Nat.ble 64 c) (eqF n 0)) (.c (zerosS [.i k n] c)) (.w k c (Nat.succ (Nat.log2 c)) (wmk 0 (Nat.succ (Nat.log2 c)))) := rfl
      cases hb : and (Nat.ble 64 c) (eqF n 0) with
      | false => left; rw [h, hb]
      | true =>
        obtain ⟨_, b2⟩ := and_t hb
        have : n = 0 := by rw [eqF_eq] at b2; simpa using b2
        subst this
        right; exact ⟨k, rfl, by rw [h, hb]⟩
theorem okB_mks {e : Env} {w : World} {p : Pth} {z : List S} {c : Nat} {T : TypeId} (ht : trs (e.lay p (w.heap.size, 0) 0) (zerosS z c) = trs e (zerosS z c)) : OkB (e.lay p (w.heap.size, 0) 0) (w.alloc (.cells (trs e (zerosS z c)) T)) p (mksB z c) := by
  have h0 := okB_c (e := e) (w := w) (p := p) (cs := zerosS z c) (T := T) 0 (lay_σ _ _ _ _) ht
  rcases mksB_out z c with h | ⟨k, rfl, h⟩
  · rw [h]; exact h0
  · rw [h]
    have hlen : (zerosS [S.i k 0] c).length = c := by rw [zerosS_length]; simp
    refine ⟨h0.1, fun i hi => ?_, by have := h0.2.2; rw [hlen] at this; exact this, wmk_deep _ _, ?_⟩
    · have hg := zerosS_get [S.i k 0] (by simp) c i (by simpa using hi)
      simp only [List.length_cons, List.length_nil, Nat.zero_add, Nat.mod_one, List.getElem?_cons_zero] at hg
      rw [h0.2.1 i _ hg, wg_wmk]; rfl
    · exact Nat.le_of_lt Nat.lt_log2_self
theorem rf_mks {z : List S} {c : Nat} {f : Pth → Bool} (hz : z.all (S.rf f) = true) : (mksB z c).rf f = true := by
  rcases mksB_out z c with h | ⟨k, rfl, h⟩
  · rw [h]; exact zerosS_rf hz c
  · rw [h]; exact kns_wmk (x := 0) rfl 0
section
variable {Y : Lay} {P : Program} {o : Oper}
theorem makes_mks {T el : TypeId} {x y : Operand} {x' y' : O} {i : TypeInfo} {z : List S} (ho : o.op = .makeSlice T x y)
    (hu : P.underlying T = some (.slice el)) (hi : P.info? el = some i) (hz : zeroOf P el = some z) (hsz : i.size ≠ 0) (hx : compX Y x = some x') (hy : compX Y y = some y') : Makes Y P o (.mks i.size i.bytes z x' y') := by
  intro cal t h k r hr
  obtain ⟨k1, n, hn, hr⟩ := asI_some (show asI (ev t x') _ = some r from hr)
  obtain ⟨k2, c, hc, hr⟩ := asI_some (show asI (ev t y') _ = some r from hr)
  cases n with
  | negSucc n => cases hr
  | ofNat n =>
  cases c with
  | negSucc c => cases hr
  | ofNat c =>
  obtain ⟨hb, hr⟩ := onB_t (show onB (and (Nat.ble n c) (and (Nat.ble c 1099511627776) (Nat.ble (Nat.mul i.bytes c) 281474976710656))) _ none = some r from hr)
  obtain ⟨b1, b2⟩ := and_t hb
  obtain ⟨b2, b3⟩ := and_t b2
  have g1 := nat_le b1
  have g2 := nat_le b2
  have g3 : i.bytes * c ≤ 281474976710656 := nat_le b3
  refine ⟨fun p => .s (.sl p 0 n c), mksB z c, fun cal h k => ?_, ?_, fun p f hf => hf, fun e f a hT => ?_⟩
  · show asI (ev t x') _ = _
    rw [hn, e_asI]
    show asI (ev t y') _ = _
    rw [hc, e_asI]
    show onB (and (Nat.ble n c) (and (Nat.ble c 1099511627776) (Nat.ble (Nat.mul i.bytes c) 281474976710656))) _ none = _
    rw [hb, e_t]
    exact Hp.pushK_eq h _ _
  · rcases mksB_out z c with h | ⟨k, _, h⟩ <;> rw [h] <;> simp
  obtain ⟨kk, v, hk, hiz, hcells, hvz, hzl⟩ := zeroOf_run hz e
  have hki : kk = i := by rw [hk] at hi; cases hi; rfl
  rw [hki] at hk hiz hzl
  clear hki
  have hzne : z ≠ [] := by intro e; rw [e] at hzl; simp at hzl; omega
  have hn1 := ev_i hT (x := x) (by simp [ho, Op.operands]) hx hn (reB_nat (by omega))
  have hc1 := ev_i hT (x := y) (by simp [ho, Op.operands]) hy hc (reB_nat (by omega))
  refine ⟨rf_mks (hvz f), fun w p hp => ⟨.slice (some ⟨w.heap.size, 0, none⟩) n c, w.alloc (.cells (trs e (zerosS z c)) el), 0, ?_, .alloc _ _, .inl ?_, okB_mks ((lay_agrF hp _ _).trs (zerosS_rf (hvz f) c))⟩⟩
  · have w1 : IntKind.i64.wrap (n : Int) = n := IntWalk.i64_in n (by omega)
    have w2 : IntKind.i64.wrap (c : Int) = c := IntWalk.i64_in c (by omega)
    have hn1 : a.eval x = .int k1 (n : Int) := hn1
    have hc1 : a.eval y = .int k2 (c : Int) := hc1
    by_cases h0 : c * i.size = 0
    · have hn0 : c = 0 := by rcases Nat.mul_eq_zero.1 h0 with h | h; exact h; exact absurd h hsz
      subst hn0
      have : n = 0 := by omega
      subst this
      have w0 : IntKind.i64.wrap 0 = 0 := by decide
      simp [execOp, ho, Instr.makeSlice, run_underlying hu, hn1, hc1, asInt, asIntOf, sizeOf, typeInfo, hi, w0, newRow, zerosS_zero, trs, Array.range_zero']
    · have f1 := zerosS_trs e z hzne c
      rw [hzl] at f1
      have q1 : ¬ ((c : Int) < 0) := by omega
      have q2 : ¬ (2 ^ 48 < (i.bytes : Int) * c) := by omega
      have q3 : ¬ ((n : Int) < 0) := by omega
      have q4 : ¬ ((c : Int) < n) := by omega
      have q5 : ¬ (281474976710656 < (i.bytes : Int) * c) := by omega
      simp [execOp, ho, Instr.makeSlice, run_underlying hu, hn1, hc1, asInt, asIntOf, sizeOf, typeInfo, hi, w1, w2, q1, q2, q3, q4, q5, zeroValue, hiz, hcells, h0, f1, newRow]
  · have : c < G := by unfold G; omega
    simp only [V.tr, S.tr, lay_adr, cpT, if_pos this]
theorem shK_out {β : Type} {h : Hp} {es : Nat} {s : S} {c : Nat → List S → Option β} {q : β} (hq : shK h es s c = some q) : ∃ n l, c n l = some q ∧ (∀ {γ : Type} (c : Nat → List S → Option γ), shK h es s c = c n l) ∧ l.length = n * es ∧
    ∀ {P : Program} {e : Env} {w : World}, Rel e h w → s.rf (Pth.ok h.n.n) = true → l.all (S.rf (Pth.ok h.n.n)) = true ∧ ∀ w', w'.heap = w.heap → (Builtin.lenOf (s.tr e)).run P w' = .ok n w' ∧ ∀ m, m ≤ n → (Builtin.firstCells es m (s.tr e)).run P w' = .ok (trs e (l.take (m * es))) w' := by
  cases s <;> first | (cases hq; done) | skip
  · rename_i r o n cp
    cases n with
    | zero =>
      refine ⟨0, [], hq, fun _ => rfl, by simp, fun {P e w} H hr => ⟨rfl, fun w' _ => ⟨by simp [Builtin.lenOf, S.tr], fun m hm => ?_⟩⟩⟩
      obtain rfl : m = 0 := by omega
      simp [Builtin.firstCells, S.tr, trs, loadCells, loadCellsFrom]
    | succ m =>
      obtain ⟨l, h1, h2, h3, h4⟩ := ldN_out (show ldN (h.gb r) o (Nat.mul (Nat.succ m) es) _ = some q from hq)
      refine ⟨m + 1, l, h1, fun c => h2 _, h3, fun {P e w} H hr => ?_⟩
      obtain ⟨g1, g2⟩ := H.gb (r := r) hr
      obtain ⟨i1, i2⟩ := h4 g1 g2
      refine ⟨i1, fun w' hw => ⟨by simp [Builtin.lenOf, S.tr], fun j hj => ?_⟩⟩
      have hle : j * es ≤ (m + 1) * es := Nat.mul_le_mul_right _ hj
      have h3 : l.length = (m + 1) * es := h3
      have hcell : ∀ a, w'.cell? a = w.cell? a := fun a => by simp [World.cell?, hw]
      have := run_loadCells_of (P := P) (e := e) (w := w') (p := r) (o := o) (n := j * es) (l := l.take (j * es)) (by rw [List.length_take]; omega) (fun i s hi => by
        rw [hcell]
        refine i2 i s ?_
        rw [List.getElem?_take] at hi
        split at hi
        · exact hi
        · cases hi)
      simpa [Builtin.firstCells, S.tr] using this
  · refine ⟨0, [], hq, fun _ => rfl, by simp, fun {P e w} H hr => ⟨rfl, fun w' _ => ⟨by simp [Builtin.lenOf, S.tr], fun m hm => ?_⟩⟩⟩
    obtain rfl : m = 0 := by omega
    simp [Builtin.firstCells, S.tr, trs]
  · refine ⟨0, [], hq, fun _ => rfl, by simp, fun {P e w} H hr => ⟨rfl, fun w' _ => ⟨by simp [Builtin.lenOf, S.tr], fun m hm => ?_⟩⟩⟩
    obtain rfl : m = 0 := by omega
    simp [Builtin.firstCells, S.tr, trs, loadCells, loadCellsFrom]
theorem acts_cpy {T el U : TypeId} {x y : Operand} {x' y' : O} {i : TypeInfo} {c : Call} (ho : o.op = .call c) (hc : c.callee = .builtin .copy) (ha : c.args.toList = [x, y]) (hat : c.argTypes.toList = [T, U])
    (hu : P.underlying T = some (.slice el)) (hi : P.info? el = some i) (hx : compX Y x = some x') (hy : compX Y y = some y') : Acts Y P o (.cpy i.size x' y') := by
  have ha' : c.args = #[x, y] := by rw [← ha]
  have hat' : c.argTypes = #[T, U] := by rw [← hat]
  intro cal t h k r hr
  obtain ⟨sy, hsy, hr⟩ := asS_some (show asS (ev t y') _ = some r from hr)
  obtain ⟨n, src, hr, s2, s3, s4⟩ := shK_out hr
  obtain ⟨sx, hsx, hr⟩ := asS_some hr
  have hSx : x ∈ o.op.operands := by simp [ho, Op.operands, Call.operands, hc, ha']
  have hSy : y ∈ o.op.operands := by simp [ho, Op.operands, Call.operands, hc, ha']
  have hysl : ∀ {cl : Nat → List S → Ans} {q}, shK h i.size sy cl = some q → nU sy = true := fun {cl q} hq => by
    cases sy <;> first | rfl | (cases hq; done)
  have hev : ∀ cal k, exJ (.cpy i.size x' y') cal t h k = S.casesOn sx (fun _ => none) (fun _ _ => none) (fun _ _ => none) none
      (fun r o len _ => fN (Nat.min n len) fun m => onO (tkF src (Nat.mul m i.size)) fun src => onB (Nat.blt m 18446744073709551616) (storeK h r o (Nat.mul m i.size) src fun h => k (.s (.i .i64 (.ofNat m))) h) none)
      (k (.s (.i .i64 (.ofNat 0))) h) (fun _ _ => none) (fun _ _ => none) (fun _ _ _ _ => none) none (fun _ => none) (fun _ => none) none (fun _ => none) none (fun _ _ => none) := fun cal k => by
    show asS (ev t y') _ = _
    rw [hsy, e_asS]
    show shK h i.size sy _ = _
    rw [s2]
    show asS (ev t x') _ = _
    rw [hsx, e_asS]
  have hsyn : nU sy = true := by
    have : ∃ q, shK (β := Unit) h i.size sy (fun _ _ => some ()) = some q := ⟨(), by rw [s2]⟩
    obtain ⟨q, hq⟩ := this
    cases sy <;> first | rfl | (cases hq; done)
  cases sx <;> first | (cases hr; done) | skip
  · rename_i q off len cp
    have hr : fN (Nat.min n len) (fun m => onO (tkF src (Nat.mul m i.size)) fun src => onB (Nat.blt m 18446744073709551616) (storeK h q off (Nat.mul m i.size) src fun h => k (.s (.i .i64 (.ofNat m))) h) none) = some r := hr
    rw [fN_eq] at hr
    obtain ⟨src', hsrc, hr⟩ := onO_some hr
    obtain ⟨hb, hr⟩ := onB_t hr
    obtain ⟨h1, t1, t2, t3, t4, t5, t6⟩ := storeK_out hr
    obtain ⟨hs1, hs2⟩ := tkF_some hsrc
    refine ⟨.s (.i .i64 (.ofNat (Nat.min n len))), h1, fun cal k => ?_, t4, fun e a w hT H => ?_⟩
    · rw [hev]
      show fN (Nat.min n len) (fun m => onO (tkF src (Nat.mul m i.size)) fun src => onB (Nat.blt m 18446744073709551616) (storeK h q off (Nat.mul m i.size) src fun h => k (.s (.i .i64 (.ofNat m))) h) none) = _
      rw [fN_eq, hsrc, e_o, hb, e_t, t2]
    obtain ⟨e1, e2⟩ := ev_eq hT hSx hx hsx (by simp) rfl
    obtain ⟨f1, f2⟩ := ev_eq hT hSy hy hsy (by simp) hsyn
    have f2 := V.rf_s' f2 hsyn
    obtain ⟨g1, g2⟩ := s4 (P := P) H f2
    obtain ⟨l1, l2⟩ := g2 w rfl
    have l2 := l2 (Nat.min n len) (Nat.min_le_left _ _)
    have hsrcE : src' = src.take (Nat.min n len * i.size) := hs1
    obtain ⟨w', u1, u2⟩ := t6 (P := P) H e2 (by rw [hs1]; simp only [List.all_eq_true] at g1 ⊢; exact fun x hx => g1 x (List.mem_of_mem_take hx))
    have hv : vl e ((Nat.min n len : Nat) : Int) = ((Nat.min n len : Nat) : Int) := vl_lt (by have := nat_lt hb; omega)
    refine ⟨.value (.int .i64 (Nat.min n len : Nat)), .int .i64 (Nat.min n len : Nat), w', e, ?_, .inl rfl, u2, .inr (.inl ?_), rfl⟩
    · have e1 : a.eval x = .slice (some (adr e q off)) len (cpT e q cp) := e1
      have f1 : a.eval y = sy.tr e := f1
      have hr' : (storeCells (adr e q off) (trs e (src.take (Nat.min n len * i.size))).toList 0).run P w = .ok () w' := by
        rw [← hsrcE]; simpa [trs] using u1
      have e3 : Nat.min n len = min n len := rfl
      rw [e3] at hr' l2
      simp [execOp, ho, resolve, hc, ha', hat', invoke, builtin, Builtin.copy_, e1, f1, run_underlying hu, l1, sizeOf, typeInfo, hi, l2, hr', goInt]
    · simp only [V.tr, S.tr]
      rw [show (Int.ofNat (Nat.min n len)) = ((Nat.min n len : Nat) : Int) from rfl, hv]
  · refine ⟨.s (.i .i64 (.ofNat 0)), h, fun cal k => by rw [hev], rfl, fun e a w hT H => ?_⟩
    obtain ⟨e1, e2⟩ := ev_eq hT hSx hx hsx (by simp) rfl
    obtain ⟨f1, f2⟩ := ev_eq hT hSy hy hsy (by simp) hsyn
    obtain ⟨g1, g2⟩ := s4 (P := P) H (V.rf_s' f2 hsyn)
    obtain ⟨l1, l2⟩ := g2 w rfl
    have l2 := l2 0 (Nat.zero_le _)
    refine ⟨.value (.int .i64 0), .int .i64 0, w, e, ?_, .inl rfl, .refl H, .inr (.inl ?_), rfl⟩
    · have e1 : a.eval x = .slice none 0 0 := e1
      have f1 : a.eval y = sy.tr e := f1
      have e3 : Nat.min n 0 = 0 := Nat.min_zero n
      simp [execOp, ho, resolve, hc, ha', hat', invoke, builtin, Builtin.copy_, e1, f1, run_underlying hu, l1, e3, sizeOf, typeInfo, hi, l2, goInt]
    · simp [V.tr, S.tr, vl]
end
end Go.E
